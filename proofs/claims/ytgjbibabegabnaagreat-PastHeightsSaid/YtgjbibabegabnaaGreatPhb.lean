/- My texts that the proof of PastHeights rests on, part 2: a calculus of walks, the walks, and the plain law. -/
import Derived.LaidEqlPtr
import Derived.Laws.BytesArg
import Derived.Laws.Strings
import Derived.Lib.AppendZerosOnto
import Derived.Laws.MakeOwn
import Derived.Laws.Cover3
import Derived.Test.YtgjbibabegabnaaGreatProg
import Derived.KernelRfl
import Derived.Test.YtgjbibabegabnaaGreatPha
set_option linter.unusedVariables false
set_option linter.unusedSimpArgs false
namespace Go.Proofs.YtgjbibabegabnaaGreat.Sx
open Go
def rdRes (S:Foot) (W0:World):Res where
  holds w F:=(∀ b,F b↔S b)∧∀ b,S b→b<w.heap.size∧w.heap[b]? = W0.heap[b]?
  loc:=by
    intro w w' F hw h
    refine ⟨h.1,fun b hb=>?_⟩
    have h1:=h.2 b hb
    have h2:=hw b ((h.1 b).2 hb)
    refine ⟨?_,h2.trans h1.2⟩
    rw [Array.getElem?_eq_getElem h1.1] at h2
    exact (Array.getElem?_eq_some_iff.1 h2).1
  lt:=by
    intro w F b h hb
    exact (h.2 b ((h.1 b).1 hb)).1
def rd (S:Foot) (W0:World):Tok where
  ks:=[]
  r _:=rdRes S W0
  sup _:=rfl
structure LAt {α:Type} (S:Foot) (W0:World) (v:Value) (b o:Nat) (e:α→List Value) (s:Nat) (l:List α):Prop where
  len : ∀ c,(e c).length=s
  pos:0<s
  sl : ∃ ao cap,v=.slice ao l.length cap∧l.length≤cap∧(0<l.length→ao=some ⟨b,o,none⟩)
  inn:0<l.length→S b
  cells : ∀ j u,(l.flatMap e)[j]? = some u→W0.cell? ⟨b,o+j,none⟩=some u
def LArg {α:Type} (S:Foot) (W0:World) (v:Value) (e:α→List Value) (s:Nat) (l:List α):Prop:=∃ b o,LAt S W0 v b o e s l
def rV {α:Type} (k:Nat) (S:Foot) (W0:World) (v:Value) (b o:Nat) (e:α→List Value) (s:Nat) (l:List α):Vw:=⟨k,rd S W0,.v v,fun off=>.v (ptr b (o+off)),l.length,s,l.flatMap e⟩
structure Vw.IsC {α:Type} (V:Vw) (e:α→List Value) (l:List α):Prop where
  is:V.Is e l
  cap : ∀ (β:Env) (w:World) (F:Foot),(V.t.r β).holds w F→∀ ao m cap,V.s.den β=.slice ao m cap→m≤cap
section
variable {α:Type} {e:α→List Value} {s:Nat} {l:List α} {S:Foot} {W0:World} {v:Value} {b o:Nat}
theorem LAt.is (h:LAt S W0 v b o e s l) (k:Nat):(rV k S W0 v b o e s l).Is e l:=by
  refine ⟨rfl,rfl,h.len,h.pos,?_⟩
  intro β w F hw
  obtain ⟨ao,cap,h1,h2,h3⟩:=h.sl
  refine ⟨chunk_len h.len l,ao,cap,h1,fun hm=>⟨b,o,h3 hm,fun _ _=>rfl,fun j u hj=>?_⟩⟩
  have h4:=hw.2 b (h.inn hm)
  have:=h.cells j u hj
  simp only [World.cell?] at this ⊢
  rw [h4.2];exact this
theorem LAt.isC (h:LAt S W0 v b o e s l) (k:Nat):(rV k S W0 v b o e s l).IsC e l:=by
  refine ⟨h.is k,fun β w F _ ao m cap hd=>?_⟩
  obtain ⟨ao',cap',h1,h2,h3⟩:=h.sl
  have:Value.slice ao m cap=.slice ao' l.length cap':=hd.symm.trans h1
  cases this;exact h2
theorem LAt.part (h:LAt S W0 v b o e s l) {lo hi:Nat} (h1:lo≤hi) (h2:hi≤l.length):LAt S W0 (partOf lo hi s v) b (o+lo*s) e s ((l.drop lo).take (hi - lo)):=by
  obtain ⟨ao,cap,h3,h4,h5⟩:=h.sl
  have hl:((l.drop lo).take (hi - lo)).length=hi - lo:=by rw [List.length_take,List.length_drop,Nat.min_eq_left (by omega)]
  refine ⟨h.len,h.pos,⟨if cap=lo then ao else ao.map (·.add (lo*s)),cap - lo,?_,?_,?_⟩,fun hm=>h.inn (by omega),fun j u hj=>?_⟩
  · rw [h3,partOf,hl]
  · rw [hl];omega
  · intro hm
    rw [hl] at hm
    rw [if_neg (by omega),h5 (by omega)]
    unfold Addr.add
    simp only [Option.map_some]
    split
    · rename_i h0;rw [h0];simp
    · rfl
  · rw [← chunk_take h.len,← chunk_drop h.len,List.getElem?_take,List.getElem?_drop] at hj
    split at hj
    · have:=h.cells _ u hj
      rw [Nat.add_assoc];exact this
    · cases hj
theorem lrowV_isC {k:Nat} {T:TypeId} (hf : ∀ c,(e c).length=s) (hs:0<s):(lrowV k T e s l).IsC e l:=by
  refine ⟨lrowV_is hf hs,fun β w F hw ao m cap hd=>?_⟩
  have h2:w.ownsRow 0 T s (one1 (β k).v) l.length (l.flatMap e):=hw.2
  have hd':one1 (β k).v=.slice ao m cap:=hd
  rw [hd'] at h2
  rcases h2.2 with ⟨h0,h4⟩ | ⟨g,cap',cur,hv,_,_,hc,_⟩
  · cases h0;omega
  · cases hv;exact hc
theorem Vw.inn {V:Vw} (hV:V.Ok) {β:Env} {w:World} {F:Foot} (h:(V.t.r β).holds w F) {b o cap:Nat} (hd:V.s.den β=.slice (some ⟨b,o,none⟩) V.m cap) (hm:0<V.m) (hs:0<V.size):F b:=by
  refine Classical.byContradiction fun hn=>?_
  have h1:(V.t.r β).holds (w.setRow b #[]) F:=(V.t.r β).loc (fun k hk=>setRow_other w b k _ (fun e=>hn (e▸hk))) h
  obtain ⟨hx,ao,cap',h2,h3⟩:=hV β _ F h1
  rw [hd] at h2
  cases h2
  obtain ⟨b',o',h4,_,h5⟩:=h3 hm
  cases h4
  have hpos:0<V.xs.length:=by rw [hx];exact Nat.mul_pos hm hs
  have h6:=h5 0 V.xs[0] (List.getElem?_eq_getElem hpos)
  obtain ⟨hx0,ao0,cap0,h20,h30⟩:=hV β w F h
  rw [hd] at h20
  cases h20
  obtain ⟨b1,o1,h41,_,h51⟩:=h30 hm
  cases h41
  have h61:=h51 0 V.xs[0] (List.getElem?_eq_getElem hpos)
  simp only [World.cell?] at h61 h6
  cases hc:w.heap[b]? with
  | none => rw [hc] at h61; cases h61
  | some ob =>
    rw [hc] at h61
    cases ob with
    | cells cur T tg =>
      have:=setRow_heap w b _ #[] _ _ hc
      rw [this] at h6
      simp at h6
    | _ => cases h61
theorem Star_mem : ∀ {L:List Res} {w:World} {F:Foot} {r:Res},Star L w F→r∈L→∃ F1:Foot,(∀ b,F1 b→F b)∧r.holds w F1
  | r0 :: L, w, F, r, ⟨F1, F2, e, d, hr, hs⟩, hm => by
    rcases List.mem_cons.1 hm with rfl | hm
    · exact ⟨F1,fun b hb=>(e b).2 (.inl hb),hr⟩
    · obtain ⟨G,h1,h2⟩:=Star_mem hs hm
      exact ⟨G,fun b hb=>(e b).2 (.inr (h1 b hb)),h2⟩
theorem Vw.IsC.larg {V:Vw} (h:V.IsC e l) {tr:List (Nat×Tok)} (hm : ∃ k,(k,V.t)∈tr) {β:Env} {w:World} {S:Foot} (hs:Star (tr.map fun p=>p.2.r β) w S):LArg S w (V.s.den β) e V.size l:=by
  obtain ⟨k,hm⟩:=hm
  obtain ⟨F1,hsub,h1⟩:=Star_mem hs (List.mem_map_of_mem (f:=fun p:Nat×Tok=>p.2.r β) hm)
  obtain ⟨hx,ao,cap,h2,h3⟩:=h.is.ok β w F1 h1
  have hc:=h.cap β w F1 h1 ao V.m cap h2
  have hm':=h.is.m
  by_cases h0:0<V.m
  · obtain ⟨b,o,rfl,hp,hcl⟩:=h3 h0
    exact ⟨b,o,h.is.len,h.is.pos,⟨_,cap,by rw [h2,hm'],by omega,fun _=>rfl⟩,fun _=>hsub b (Vw.inn h.is.ok h1 h2 h0 h.is.pos),fun j u hj=>hcl j u (by rw [h.is.xs];exact hj)⟩
  · have hl:l=[]:=List.eq_nil_of_length_eq_zero (by omega)
    subst hl
    exact ⟨0,0,h.is.len,h.is.pos,⟨_,cap,by rw [h2,hm'],by simp,fun h=>by simp at h⟩,fun h=>by simp at h,fun j u hj=>by simp at hj⟩
end
theorem Star_append {A B:List Res} : ∀ {w:World} {F:Foot},Star (A++B) w F↔∃ F1 F2:Foot,(∀ b,F b↔F1 b∨F2 b)∧(∀ b,F1 b→¬ F2 b)∧Star A w F1∧Star B w F2:=by
  induction A with
  | nil =>
    intro w F
    constructor
    · intro h;exact ⟨fun _=>False,F,fun b=>by simp,fun _ h=>h.elim,fun _ h=>h,h⟩
    · rintro ⟨F1,F2,e,d,h1,h2⟩
      have:F=F2:=funext fun b=>propext (by rw [e b];exact ⟨fun h=>h.elim (fun h'=>absurd h' (h1 b)) id,.inr⟩)
      rw [this];exact h2
  | cons r A ih =>
    intro w F
    constructor
    · rintro ⟨G1,G2,e,d,hr,hs⟩
      obtain ⟨F1,F2,e',d',h1,h2⟩:=ih.1 hs
      refine ⟨fun b=>G1 b∨F1 b,F2,fun b=>by rw [e b,e' b,or_assoc],?_,⟨G1,F1,fun b=>Iff.rfl,fun b hb hf=>d b hb ((e' b).2 (.inl hf)),hr,h1⟩,h2⟩
      rintro b (hb | hb) hf
      · exact d b hb ((e' b).2 (.inr hf))
      · exact d' b hb hf
    · rintro ⟨F1,F2,e,d,⟨G1,G2,e',d',hr,h1⟩,h2⟩
      refine ⟨G1,fun b=>G2 b∨F2 b,fun b=>by rw [e b,e' b,or_assoc],?_,hr,ih.2 ⟨G2,F2,fun b=>Iff.rfl,fun b hb hf=>d b ((e' b).2 (.inr hb)) hf,h1,h2⟩⟩
      rintro b hb (hf | hf)
      · exact d' b hb hf
      · exact d b ((e' b).2 (.inl hb)) hf
section
variable {P:Program} {n:Nat} {ops:Array Oper} {rest:List Oper} {fs fs':FL} {L L':TL} {ss:List Step}
theorem Run.callV {d : Nat} {c : Call} {ty : TypeId} {pos : String} {after : Array Edge} {g : Option (Nat × Bool)} {gr : FL} {f : FuncId} {args : List SV} {ret : SV} {fr : List Nat} (l : List (Operand × SV)) (tr ti to : List (Nat × Tok)) (args' : Env → List SV)
    (ha : ∀ β,(args' β).map (SV.den β)=args.map (SV.den β))
    (hs : ∀ (β:Env) (w:World) (S:Foot),Star (tr.map fun p=>p.2.r β) w S→SCon P f (args' β) ((0,rd S w)::ti) ret ((0,rd S w)::to) fr)
    (hc:ToFn P c ty l f args) (hg:Gd ops ⟨some d,.call c,ty,pos,after,g⟩ fs gr) (hev : ∀ p∈l,ev fs p.1=some p.2)
    (htk : ∀ p∈tr++ti,lkT L p.1=some p.2) (hnd:((tr++ti).map (·.1)).Nodup) (hnd':((tr++to).map (·.1)).Nodup) (hsub : ∀ p∈ti,p.1∈to.map (·.1)) (hout : ∀ p∈to,p.1∈ti.map (·.1)∨lkT L p.1=none)
    (hfr:frB fr fs L=true) (hn:Nat.blt d n=true)
    (h:Run P n ops rest ((d,ret)::fs) (to.map (fun p=>(p.1,some p.2))++L) ss fs' L'):Run P n ops (⟨some d,.call c,ty,pos,after,g⟩::rest) fs L (⟨gr++opds l,some d,ret,tr,ti,to,fr⟩::ss) fs' L':=by
  obtain ⟨f1,f2,f3⟩:=frB_spec hfr
  refine Run.cons ?_ ?_ ?_ (fun j=>?_) h
  · intro β a w G K Q hrs hsz hst hK
    have hw:=hg.wanted hrs hsz
    unfold opW Oper.wp
    rw [if_pos hw]
    have h1:=hc β a.eval w (opds_eval hg hev hrs)
    simp only [execOp]
    rw [h1,Oper.upon_enter]
    rw [List.map_append] at hst
    obtain ⟨S,F2,e,dj,hS,hT⟩:=Star_append.1 hst
    have hin:Star (((0,rd S w)::ti).map fun p=>p.2.r β) w G:=⟨S,F2,e,dj,⟨fun b=>Iff.rfl,fun b hb=>⟨hS.lt hb,rfl⟩⟩,hT⟩
    have hcall:=hs β w S hS β w G hin
    rw [ha] at hcall
    refine hcall.mono (fun e' w' he=>?_)
    obtain ⟨β',hb,rfl,F',h2,h3,h4⟩:=he
    obtain ⟨S',F3,eF,dF,hS',hT'⟩:=h2
    have hS2:Star (tr.map fun p=>p.2.r β') w' S:=by
      have:(tr.map fun p=>p.2.r β')=tr.map fun p=>p.2.r β:=List.map_congr_left (fun p hp=>(p.2.sup (fun k hk=>hb k (f3 p.1 p.2 (htk p (List.mem_append_left _ hp)) k hk))))
      rw [this]
      exact hS.loc (fun b hb=>(hS'.2 b hb).2)
    refine hK β' w' F' hb ?_ h3 h4
    rw [List.map_append]
    have eS : ∀ b,S' b↔S b:=hS'.1
    exact Star_append.2 ⟨S,F3,fun b=>by rw [eF b,eS b],fun b h1 h2=>dF b ((eS b).2 h1) h2,hS2,hT'⟩
  · refine ⟨fun t z hz=>?_,fun d' hd'=>?_,htk,hnd,hnd',hout,f1,f2,fun j t hj _=>f3 j t hj⟩
    · rw [lk_append] at hz
      cases hx':lk gr t with
      | some z' => rw [hx'] at hz; simp at hz; subst hz; exact hg.fs hx'
      | none => rw [hx'] at hz; simp at hz; exact opds_fs hev hz
    · simp at hd';subst hd'
      rw [Nat.blt_eq] at hn
      exact hn
  · simp only [Step.outF,lk_cons]
  · rw [Step.outM_eq]
    have e1 : ∀ (to:List (Nat×Tok)),lkT (to.map (fun p=>(p.1,some p.2))++L) j=(lkP to j).or (lkT L j):=by
      intro to
      induction to with
      | nil => simp [lkP]
      | cons p to ih =>
        rw [List.map_cons,List.cons_append,lkT_cons]
        simp only [upd,lkP]
        split <;> simp [ih]
    rw [e1]
    cases hp:lkP to j with
    | some x => rfl
    | none =>
      simp only [Option.none_or]
      rw [if_neg]
      intro hm
      obtain ⟨p,hp',rfl⟩:=List.mem_map.1 hm
      obtain ⟨q,hq,e⟩:=List.mem_map.1 (hsub p hp')
      have : ∀ l:List (Nat×Tok),q∈l→lkP l p.1≠none:=by
        intro l
        induction l with
        | nil => intro h; cases h
        | cons r l ih =>
          intro h
          simp only [lkP]
          split
          · simp
          · rename_i hne
            rcases List.mem_cons.1 h with rfl | h
            · exact absurd e.symm hne
            · exact ih h
      exact this to hq hp
theorem K.callV {K : List Step → FL → TL → Prop} {d : Nat} {c : Call} {ty : TypeId} {pos : String} {after : Array Edge} {g : Option (Nat × Bool)} {gr : FL} {f : FuncId} {args : List SV} {ret : SV} {fr : List Nat} (l : List (Operand × SV)) (tr ti to : List (Nat × Tok)) (args' : Env → List SV)
    (hs : ∀ (β:Env) (w:World) (S:Foot),Star (tr.map fun p=>p.2.r β) w S→SCon P f (args' β) ((0,rd S w)::ti) ret ((0,rd S w)::to) fr)
    (hc:ToFn P c ty l f args) (hg:Gd ops ⟨some d,.call c,ty,pos,after,g⟩ fs gr) (hev:AllE fs l) (ha : ∀ β,(args' β).map (SV.den β)=args.map (SV.den β))
    (htk:AllT L (tr++ti)) (hnd:ndB ((tr++ti).map (·.1))=true) (hnd':ndB ((tr++to).map (·.1))=true) (hsub:ti.all (fun p=>(to.map (·.1)).contains p.1)=true) (hout:to.all (fun p=>(ti.map (·.1)).contains p.1 || (lkT L p.1).isNone)=true)
    (hfr:frB fr fs L=true) (hn:Nat.blt d n=true)
    (h:RunK P n ops rest ((d,ret)::fs) (to.map (fun p=>(p.1,some p.2))++L) (fun ss fs' L'=>K (⟨gr++opds l,some d,ret,tr,ti,to,fr⟩::ss) fs' L')):RunK P n ops (⟨some d,.call c,ty,pos,after,g⟩::rest) fs L K :=
  RunK.of (fun _ _ _ h=>Run.callV l tr ti to args' ha hs hc hg hev.spec htk.spec (ndB_spec hnd) (ndB_spec hnd') (fun p hp=>by simpa using List.all_eq_true.1 hsub p hp) (fun p hp=>by
    have:=List.all_eq_true.1 hout p hp
    rw [Bool.or_eq_true] at this
    rcases this with h | h
    · exact .inl (by simpa using h)
    · exact .inr (by simpa using h)) hfr hn h) h
theorem Run.skipU {o : Oper} {d : Nat} {j : Nat} {want : Bool} {t : Nat} (hd : o.dst = some d) (hgd : o.guard = some (j, want)) (hdj : (ops[j]?).bind (·.dst) = some t) (hl : lk fs t = some (SV.raw undef)) (hn : Nat.blt d n = true)
    (h:Run P n ops rest ((d,SV.raw undef)::fs) L ss fs' L'):Run P n ops (o::rest) fs L (⟨[(t,SV.raw undef)],some d,SV.raw undef,[],[],[],[]⟩::ss) fs' L':=by
  refine Run.cons ?_ ?_ ?_ (fun k=>?_) h
  · intro β a w G K Q hrs hsz hst hK
    have e1:lk [(t,SV.raw undef)] t=some (SV.raw undef):=by simp [lk]
    have e2:=hrs t _ e1
    have e3:=hsz t (by rw [e1];rfl)
    have hw:Region.wanted o (yielded ops a.tmps)=false:=by
      simp only [Region.wanted,hgd,yielded,hdj,Option.bind_some]
      have e4:a.tmps[t]? = some undef:=by
        have:a.tmps[t]? = some a.tmps[t]:=by simp [e3]
        rw [this]
        simp [Array.getD_eq_getD_getElem?,e3] at e2
        rw [e2];rfl
      rw [e4];cases want <;> rfl
    unfold opW
    rw [hw,hd]
    exact hK β w G (fun _ _=>rfl) hst (fun b hb=>.inl hb) (Mod.refl _ _)
  · refine ⟨fun t' y hy=>?_,fun d' hd'=>?_,fun p hp=>by simp at hp,by simp,by simp,fun p hp=>by simp at hp,fun k hk=>by simp at hk,fun _ _ _ _ _ h=>by simp at h,fun _ _ _ _ _ _ h=>by simp at h⟩
    · have:=lk_mem hy
      simp at this
      obtain ⟨rfl,rfl⟩:=this
      exact hl
    · simp at hd';subst hd'
      rw [Nat.blt_eq] at hn
      exact hn
  · simp only [Step.outF,lk_cons]
  · rfl
theorem K.skipU {K : List Step → FL → TL → Prop} {o : Oper} {d : Nat} {j : Nat} {want : Bool} {t : Nat} (hd : o.dst = some d) (hgd : o.guard = some (j, want)) (hdj : (ops[j]?).bind (·.dst) = some t) (hl : lk fs t = some (SV.raw undef)) (hn : Nat.blt d n = true)
    (h:RunK P n ops rest ((d,SV.raw undef)::fs) L (fun ss fs' L'=>K (⟨[(t,SV.raw undef)],some d,SV.raw undef,[],[],[],[]⟩::ss) fs' L')):RunK P n ops (o::rest) fs L K :=
  RunK.of (fun _ _ _ h=>Run.skipU hd hgd hdj hl hn h) h
theorem Run.partR {α : Type} {e : α → List Value} {s : Nat} {ls : List α} {S : Foot} {W0 : World} {v : Value} {b o : Nat} {d : Nat} (lo' hi' : Nat) {t : TypeId} {x : Operand} {lo hi : Option Operand} {ql qh : List (Operand × SV)} {ty : TypeId} {pos : String} {after : Array Edge} {g : Option (Nat × Bool)} {gr : FL} {el : TypeId} (hI : LAt S W0 v b o e s ls) (hg : Gd ops ⟨some d, .slice t x lo hi none, ty, pos, after, g⟩ fs gr)
    (hx:ev fs x=some (SV.raw v)) (hlo:Bnd fs 0 lo' ql lo) (hhi:Bnd fs ls.length hi' qh hi) (hu:P.underlying t=some (.slice el)) (hsz : ∀ w:World,(sizeOf el).run P w=.ok s w) (hlh:lo'≤hi') (hh:hi'≤ls.length) (hn:Nat.blt d n=true)
    (h:Run P n ops rest ((d,SV.raw (partOf lo' hi' s v))::fs) L ss fs' L'):Run P n ops (⟨some d,.slice t x lo hi none,ty,pos,after,g⟩::rest) fs L (⟨gr++opds ((x,SV.raw v)::(ql++qh)),some d,SV.raw (partOf lo' hi' s v),[],[],[],[]⟩::ss) fs' L' :=
  Run.pure ((x,SV.raw v)::(ql++qh)) (SV.raw (partOf lo' hi' s v)) rfl hg (fun p hp=>by
    rcases List.mem_cons.1 hp with rfl | hp
    · exact hx
    · rcases List.mem_append.1 hp with hp | hp
      · exact hlo.ev p hp
      · exact hhi.ev p hp) hn (fun β ρ w hρ=>by
    have e1:ρ x=v:=hρ (x,SV.raw v) (by simp)
    obtain ⟨lv,hlv,hl'⟩:=hlo.val (fun p hp=>hρ p (List.mem_cons_of_mem _ (List.mem_append_left _ hp)))
    obtain ⟨hv,hhv,hh'⟩:=hhi.val (fun p hp=>hρ p (List.mem_cons_of_mem _ (List.mem_append_right _ hp)))
    obtain ⟨ao,cap,h3,hc,_⟩:=hI.sl
    simp only [execOp,e1,h3,hlv,hhv,Option.map_none]
    rw [run_bind_ok (run_part (P:=P) hu hsz hl' hh' hlh hh hc w)]
    simp only [SV.den,Av.den,Cl.den,partOf,sliced];rfl) h
theorem K.partR {K : List Step → FL → TL → Prop} {α : Type} {e : α → List Value} {s : Nat} {ls : List α} {S : Foot} {W0 : World} {v : Value} {b o : Nat} {d : Nat} (lo' hi' : Nat) {t : TypeId} {x : Operand} {lo hi : Option Operand} {ql qh : List (Operand × SV)} {ty : TypeId} {pos : String} {after : Array Edge} {g : Option (Nat × Bool)} {gr : FL} {el : TypeId} (hI : LAt S W0 v b o e s ls) (hg : Gd ops ⟨some d, .slice t x lo hi none, ty, pos, after, g⟩ fs gr)
    (hx:ev fs x=some (SV.raw v)) (hlo:Bnd fs 0 lo' ql lo) (hhi:Bnd fs ls.length hi' qh hi) (hu:P.underlying t=some (.slice el)) (hsz : ∀ w:World,(sizeOf el).run P w=.ok s w) (hlh:lo'≤hi') (hh:hi'≤ls.length) (hn:Nat.blt d n=true)
    (h:RunK P n ops rest ((d,SV.raw (partOf lo' hi' s v))::fs) L (fun ss fs' L'=>K (⟨gr++opds ((x,SV.raw v)::(ql++qh)),some d,SV.raw (partOf lo' hi' s v),[],[],[],[]⟩::ss) fs' L')):RunK P n ops (⟨some d,.slice t x lo hi none,ty,pos,after,g⟩::rest) fs L K :=
  RunK.of (fun _ _ _ h=>Run.partR lo' hi' hI hg hx hlo hhi hu hsz hlh hh hn h) h
end
def arrB (P:Program) (T len e s:Nat) (zs:List Value):Bool:=match P.underlying T,P.info? e,P.info? T with
  | some (.array l e'), some ie, some it => l == len && e' == e && ie.size == s && (match it.zero with
    | some (.agg a) => a.size == zs.length && (List.range zs.length).all (fun j => match a[j]?, zs[j]? with
      | some (.int k n), some (.int k' n') => k == k' && n == n'
      | some (.bool b), some (.bool b') => b == b'
      | _, _ => false)
    | _ => false)
  | _, _, _ => false
section
variable {P:Program} {n:Nat} {ops:Array Oper} {rest:List Oper} {fs fs':FL} {L L':TL} {ss:List Step}
end
def methB (P:Program) (T:TypeId) (nm:String) (f:FuncId):Bool:=match P.info? T,P.underlying T with
  | some i, some d => (match d with | .pointer _ => false | _ => true) && (match i.methods.find? (·.name == nm) with
    | some m => m.path.isEmpty && (match m.func with | some (g, b) => g == f && !b | none => false)
    | none => false)
  | _, _ => false
theorem meth_of {P:Program} {T:TypeId} {nm:String} {f:FuncId} (h:methB P T nm f=true) (v:Value) (w:World):(method (P.types.size+Made.depth) T v nm).run P w=.ok (f,v) w:=by
  unfold methB at h
  split at h
  · rename_i i d hi hd
    rw [Bool.and_eq_true] at h
    obtain ⟨h1,h2⟩:=h
    split at h2
    · rename_i m hm
      rw [Bool.and_eq_true] at h2
      obtain ⟨h3,h4⟩:=h2
      have hp:m.path.toList=[]:=by simpa using h3
      split at h4
      · rename_i g b hf
        rw [Bool.and_eq_true,beq_iff_eq,Bool.not_eq_true'] at h4
        obtain ⟨rfl,rfl⟩:=h4
        obtain ⟨n,hn⟩ : ∃ n,P.types.size+Made.depth=n+1:=⟨P.types.size+Made.depth - 1,by unfold Made.depth;omega⟩
        rw [hn]
        unfold method
        rw [run_bind_ok (run_info hi w)]
        simp only [hm,hp,follow,hf]
        unfold receiverAt
        simp only [Sem.run_bind,Sem.run_pure,Result.andThen_ok]
        rw [show (underlying T).run P w=.ok d w from run_und hd w]
        simp only [Result.andThen_ok]
        cases d <;> first | rfl | (exfalso;simp at h1;done)
      · cases h4
    · cases h2
  · cases h
def exRes (r:Int→Res):Res where
  holds w F:=∃ v,(r v).holds w F
  loc hw h:=by
    obtain ⟨v,h⟩:=h
    exact ⟨v,(r v).loc hw h⟩
  lt h hb:=by
    obtain ⟨v,h⟩:=h
    exact (r v).lt h hb
def pl {α:Type} (k:Nat) (T Tc Ti s:Nat) (f:Cell α→List Value) (p:Pool α):Tok where
  ks:=[k]
  r β:=exRes fun v=>poolRes (β k).b T Tc Ti s f { p with vis:=v }
  sup h:=by rename_i β β';rw [h k (by simp)]
theorem pl_ren {f:Nat→Nat} {α:Type} {k k' T Tc Ti s:Nat} {e:Cell α→List Value} {p:Pool α} (hk:f k'=k):RenT f (pl k' T Tc Ti s e p) (pl k T Tc Ti s e p):=by
  intro β;subst hk;rfl
theorem SCon.hide {α : Type} {P : Program} {f : FuncId} {args : List SV} {ret : SV} {k T Tc Ti s : Nat} {e : Cell α → List Value} {p p' : Pool α}
    (h : ∀ v,∃ v',SCon P f args [(k,pool k T Tc Ti s e { p with vis:=v })] ret [(k,pool k T Tc Ti s e { p' with vis:=v' })] []):SCon P f args [(k,pl k T Tc Ti s e p)] ret [(k,pl k T Tc Ti s e p')] []:=by
  intro β w F hs
  obtain ⟨v,hv⟩:=Star_one.1 hs
  obtain ⟨v',h1⟩:=h v
  refine (h1 β w F (Star_one.2 hv)).mono fun e' w'=>?_
  rintro ⟨β',hb,he,F',h2,h3,h4⟩
  exact ⟨β',hb,he,F',Star_one.2 ⟨v',Star_one.1 h2⟩,h3,h4⟩
theorem SCon.hideNew {α : Type} {P : Program} {f : FuncId} {args : List SV} {ret : SV} {k T Tc Ti s : Nat} {e : Cell α → List Value} {p : Pool α} {fr : List Nat}
    (h:SCon P f args [] ret [(k,pool k T Tc Ti s e p)] fr):SCon P f args [] ret [(k,pl k T Tc Ti s e p)] fr:=by
  intro β w F hs
  refine (h β w F hs).mono fun e' w'=>?_
  rintro ⟨β',hb,he,F',h2,h3,h4⟩
  exact ⟨β',hb,he,F',Star_one.2 ⟨p.vis,Star_one.1 h2⟩,h3,h4⟩
abbrev w64 (x:Int):Int:=IntKind.i64.wrap x
abbrev gmin (a b:Int):Int:=if b<a then b else a
abbrev gmax (a b:Int):Int:=if b>a then b else a
section
variable {α β:Type} {c:Bool} {A B:Option α} {r:α}
theorem bif_t (H:(bif c then A else B)=some r) (h:c=true):A=some r:=by rw [h] at H;exact H
theorem bif_f (H:(bif c then A else B)=some r) (h:c=false):B=some r:=by rw [h] at H;exact H
theorem grd {p:Prop} [Decidable p] (H:(bif decide p then A else none)=some r):p∧A=some r:=by
  by_cases h:p
  · simp only [h,decide_true,cond_true] at H;exact ⟨h,H⟩
  · simp only [h,decide_false,cond_false] at H;cases H
theorem bnd {o:Option β} {f:β→Option α} (H:o.bind f=some r) : ∃ x,o=some x∧f x=some r:=Option.bind_eq_some_iff.1 H
def atL (l:List β) (i:Int):Option β:=bif decide (i<0) then none else l[i.toNat]?
theorem atL_get {l:List β} {i:Int} {x:β} (h:atL l i=some x):l[i.toNat]? = some x:=by
  unfold atL at h
  by_cases h0:i<0
  · simp [h0] at h
  · simpa [h0] using h
theorem atL_nn {l:List β} {i:Int} {x:β} (h:atL l i=some x):i=((i.toNat:Nat):Int):=by
  unfold atL at h
  by_cases h0:i<0
  · simp [h0] at h
  · omega
end
theorem inj_pairs : ∀ {l:List (Nat×Nat)},(l.map (·.2)).Nodup→∀ {p q:Nat×Nat},p∈l→q∈l→p.2=q.2→p=q
  | x :: l, h, p, q, hp, hq, e => by
    simp only [List.map_cons,List.nodup_cons] at h
    rcases List.mem_cons.1 hp with h1 | h1 <;> rcases List.mem_cons.1 hq with h2 | h2
    · rw [h1,h2]
    · exact absurd (by rw [← h1,e];exact List.mem_map_of_mem h2) h.1
    · exact absurd (by rw [← h2,← e];exact List.mem_map_of_mem h1) h.1
    · exact inj_pairs h.2 h1 h2 e
theorem rn_mem {ρ:List (Nat×Nat)} (hn:ndB (ρ.map (·.1))=true) {p:Nat×Nat} (hp:p∈ρ):rn ρ p.1=p.2:=by
  have key : ∀ {l:List (Nat×Nat)},(l.map (·.1)).Nodup→p∈l→lk l p.1=some p.2:=by
    intro l
    induction l with
    | nil => intro _ h; cases h
    | cons q l ih =>
      intro hn h
      simp only [List.map_cons,List.nodup_cons] at hn
      rcases List.mem_cons.1 h with rfl | h
      · simp [lk]
      · have:q.1≠p.1:=fun e=>hn.1 (by rw [e];exact List.mem_map_of_mem (f:=(·.1)) h)
        have hb:Nat.beq q.1 p.1=false:=by
          cases hb:Nat.beq q.1 p.1 with
          | false => rfl
          | true => exact absurd (Nat.eq_of_beq_eq_true hb) this
        simp only [lk,hb]
        exact ih hn.2 h
  unfold rn
  rw [key (ndB_spec hn) hp]
theorem rn_inj {ρ:List (Nat×Nat)} (hd:ndB (ρ.map (·.2))=true) (hn:ndB (ρ.map (·.1))=true) {j k:Nat} (hj:j∈ρ.map (·.1)) (hk:k∈ρ.map (·.1)) (e:rn ρ j=rn ρ k):j=k:=by
  obtain ⟨p,hp,rfl⟩:=List.mem_map.1 hj
  obtain ⟨q,hq,rfl⟩:=List.mem_map.1 hk
  rw [rn_mem hn hp,rn_mem hn hq] at e
  exact congrArg Prod.fst (inj_pairs (ndB_spec hd) hp hq e)
theorem rn_ks {ρ:List (Nat×Nat)} {ks fr:List Nat} (hd:ndB (ρ.map (·.2))=true) (hn:ndB (ρ.map (·.1))=true) (hk:ks.all (fun k=>(ρ.map (·.1)).contains k)=true) (hf:fr.all (fun k=>(ρ.map (·.1)).contains k)=true) : ∀ k∈ks,k∉fr→rn ρ k∉fr.map (rn ρ):=by
  intro k hkm hkf hm
  obtain ⟨j,hj,e⟩:=List.mem_map.1 hm
  have h1:=List.all_eq_true.1 hk k hkm
  have h2:=List.all_eq_true.1 hf j hj
  simp only [List.contains_iff_mem] at h1 h2
  have:=rn_inj hd hn h2 h1 e
  exact hkf (this▸hj)
theorem rn_nd {ρ:List (Nat×Nat)} {fr:List Nat} (hd:ndB (ρ.map (·.2))=true) (hn:ndB (ρ.map (·.1))=true) (hf:(ndB fr&&fr.all (fun k=>(ρ.map (·.1)).contains k))=true):(fr.map (rn ρ)).Nodup:=by
  rw [Bool.and_eq_true] at hf
  have h0:=ndB_spec hf.1
  have hm : ∀ k∈fr,k∈ρ.map (·.1):=fun k hk=>by
    have:=List.all_eq_true.1 hf.2 k hk
    simpa only [List.contains_iff_mem] using this
  clear hf
  induction fr with
  | nil => simp
  | cons k fr ih =>
    simp only [List.nodup_cons] at h0
    simp only [List.map_cons,List.nodup_cons]
    refine ⟨fun h=>?_,ih h0.2 (fun j hj=>hm j (List.mem_cons_of_mem _ hj))⟩
    obtain ⟨j,hj,e⟩:=List.mem_map.1 h
    have:=rn_inj hd hn (hm j (List.mem_cons_of_mem _ hj)) (hm k List.mem_cons_self) e
    exact h0.1 (this▸hj)
theorem larg_nil {α:Type} {e:α→List Value} {s:Nat} {S:Foot} {W0:World} (hf : ∀ c,(e c).length=s) (hs:0<s):LArg S W0 (.slice none 0 0) e s ([]:List α) :=
  ⟨0,0,hf,hs,⟨none,0,rfl,Nat.le_refl _,fun h=>by simp at h⟩,fun h=>by simp at h,fun j u hj=>by simp at hj⟩
section
variable {α β γ:Type} {f:α→Option γ} {g:β→Option γ} {r:γ}
theorem sum_l {a:α} (H:Sum.elim f g (Sum.inl a)=some r):f a=some r:=H
theorem sum_r {b:β} (H:Sum.elim f g (Sum.inr b)=some r):g b=some r:=H
end
theorem ap_m {a b:Nat} (h:a+b<4294967296):a+b≤maxLen:=by simp only [maxLen];omega
theorem ap_b {a b c:Nat} (h:a+b<4294967296) (hc:c≤32768):(a+b)*c≤140737488355328 :=
  Nat.le_trans (Nat.mul_le_mul (Nat.le_of_lt h) hc) (by decide)
theorem tn_len {b:Int} {n:Nat} (h:b≤(n:Int)):b.toNat≤n:=by omega
section
variable {α:Type} {z:α} {p:Pool α}
theorem get_vis (v i g:Int):(({ p with vis:=v }:Pool α).get z i g).1=(p.get z i g).1∧∃ v',(({ p with vis:=v }:Pool α).get z i g).2={ p with vis:=v' }:=by
  unfold Pool.get
  cases h:lookC p.cells i g with
  | none => exact ⟨rfl, v, rfl⟩
  | some c => exact ⟨rfl, _, rfl⟩
theorem set_vis (v i g:Int) (x:α):(({ p with vis:=v }:Pool α).set i g x).1=(p.set i g x).1∧∃ v',(({ p with vis:=v }:Pool α).set i g x).2={ (p.set i g x).2 with vis:=v' }:=by
  unfold Pool.set
  cases h:lookC p.cells i g with
  | none => exact ⟨rfl, v, rfl⟩
  | some c => exact ⟨rfl, _, rfl⟩
theorem drop_vis (v i g:Int):(({ p with vis:=v }:Pool α).drop z i g).1=(p.drop z i g).1∧∃ v',(({ p with vis:=v }:Pool α).drop z i g).2={ (p.drop z i g).2 with vis:=v' }:=by
  unfold Pool.drop
  cases h:lookC p.cells i g with
  | none => exact ⟨rfl, v, rfl⟩
  | some c => exact ⟨rfl, _, rfl⟩
theorem put_vis (v:Int) (x:α):(({ p with vis:=v }:Pool α).put z x).1=(p.put z x).1∧∃ v',(({ p with vis:=v }:Pool α).put z x).2={ (p.put z x).2 with vis:=v' }:=by
  unfold Pool.put Pool.next
  by_cases h:p.held=p.cap
  · simp only [h,if_true];exact ⟨trivial,v,rfl⟩
  · simp only [h,if_false]
    cases hl:p.free.getLast? with
    | none =>
      simp only
      split
      · exact ⟨rfl,v,rfl⟩
      · exact ⟨rfl,v,rfl⟩
    | some i =>
      simp only
      split
      · exact ⟨rfl,v,rfl⟩
      · exact ⟨rfl,v,rfl⟩
end
def pOk {α:Type} (p:Pool α):Prop:=p.cells.length<4294967295∧p.free.length<4294967295∧∀ i∈p.free,0≤i∧i.toNat<p.cells.length
instance {α:Type} (p:Pool α):Decidable (pOk p):=by unfold pOk;infer_instance
theorem pOk.ok {α:Type} {p:Pool α} (h:pOk p) (v:Int):PoolOk 4294967294 { p with vis:=v }:=⟨by have:=h.1;simp only;omega,by have:=h.2.1;simp only;omega,h.2.2⟩
def pGet {α:Type} (z:α) (p:Pool α) (i g:Int):Option (α×Bool):=bif decide (pOk p) then some (p.get z i g).1 else none
def pSet {α:Type} (p:Pool α) (i g:Int) (v:α):Option (Bool×Pool α):=bif decide (pOk p) then some (p.set i g v) else none
def pPut {α:Type} (z:α) (p:Pool α) (v:α):Option (((Int×Int)×Bool)×Pool α):=bif decide (pOk p) then some (p.put z v) else none
def pDrop {α:Type} (z:α) (p:Pool α) (i g:Int):Option ((α×Bool)×Pool α):=bif decide (pOk p) then some (p.drop z i g) else none
end Go.Proofs.YtgjbibabegabnaaGreat.Sx
namespace Go.Proofs.YtgjbibabegabnaaGreat.Sx
open Go
def vblk (k:Nat) (vs:List Value) (T:TypeId):Tok where
  ks:=[k]
  r β:=blkRes (β k).b vs T
  sup h:=by rename_i β β';rw [h k (by simp)]
theorem vblk_ren {f:Nat→Nat} {k k':Nat} {vs:List Value} {T:TypeId} (hk:f k'=k):RenT f (vblk k' vs T) (vblk k vs T):=by
  intro β;subst hk;rfl
section
variable {P:Program} {n:Nat} {ops:Array Oper} {rest:List Oper} {fs fs':FL} {L L':TL} {ss:List Step}
theorem Run.mkFn1 {d f : Nat} {x : Operand} {ty : TypeId} {pos : String} {after : Array Edge} {g : Option (Nat × Bool)} {gr : FL} {k : Nat} (hg : Gd ops ⟨some d, .makeFunc (.func f) #[] #[x], ty, pos, after, g⟩ fs gr)
    (hx:ev fs x=some (SV.p k 0)) (hn:Nat.blt d n=true)
    (h:Run P n ops rest ((d,.a (.c (.fn (.func f) [k])))::fs) L ss fs' L'):Run P n ops (⟨some d,.makeFunc (.func f) #[] #[x],ty,pos,after,g⟩::rest) fs L (⟨gr++opds [(x,SV.p k 0)],some d,.a (.c (.fn (.func f) [k])),[],[],[],[]⟩::ss) fs' L' :=
  Run.pure [(x,SV.p k 0)] (.a (.c (.fn (.func f) [k]))) rfl hg (fun p hp=>by simp at hp;subst hp;exact hx) hn (fun β ρ w hρ=>by
    have h1:ρ x=.pointer (some ⟨(β k).b,0,none⟩):=hρ (x,SV.p k 0) (by simp)
    simp only [execOp,List.map_toArray,List.map_cons,List.map_nil,h1];rfl) h
theorem K.mkFn1 {K : List Step → FL → TL → Prop} {d f : Nat} {x : Operand} {ty : TypeId} {pos : String} {after : Array Edge} {g : Option (Nat × Bool)} {gr : FL} {k : Nat} (hg : Gd ops ⟨some d, .makeFunc (.func f) #[] #[x], ty, pos, after, g⟩ fs gr)
    (hx:ev fs x=some (SV.p k 0)) (hn:Nat.blt d n=true)
    (h:RunK P n ops rest ((d,.a (.c (.fn (.func f) [k])))::fs) L (fun ss fs' L'=>K (⟨gr++opds [(x,SV.p k 0)],some d,.a (.c (.fn (.func f) [k])),[],[],[],[]⟩::ss) fs' L')):RunK P n ops (⟨some d,.makeFunc (.func f) #[] #[x],ty,pos,after,g⟩::rest) fs L K :=
  RunK.of (fun _ _ _ h=>Run.mkFn1 hg hx hn h) h
theorem Run.nilRowS {α : Type} (k : Nat) (T : TypeId) (f : α → List Value) (s : Nat) {d : Nat} {op : Op} {x : Operand} {ty : TypeId} {pos : String} {after : Array Edge} {g : Option (Nat × Bool)} {gr : FL} (hop : op = .assign x ∨ op = .move x) (hg : Gd ops ⟨some d, op, ty, pos, after, g⟩ fs gr) (hx : ev fs x = some (SV.raw (.slice none 0 0)))
    (hl:lkT L k=none) (hfr:frB [k] fs L=true) (hn:Nat.blt d n=true)
    (h:Run P n ops rest ((d,.a (.c (.nv k)))::fs) ((k,some (lrow k T f s ([]:List α)))::L) ss fs' L'):Run P n ops (⟨some d,op,ty,pos,after,g⟩::rest) fs L (⟨gr++opds [(x,SV.raw (.slice none 0 0))],some d,.a (.c (.nv k)),[],[],[(k,lrow k T f s ([]:List α))],[k]⟩::ss) fs' L':=by
  obtain ⟨f1,f2,f3⟩:=frB_spec hfr
  have hev : ∀ p∈[(x,SV.raw (.slice none 0 0))],ev fs p.1=some p.2:=fun p hp=>by simp at hp;subst hp;exact hx
  refine Run.cons ?_ ?_ ?_ (fun j=>?_) h
  · intro β a w G K Q hrs hsz hst hK
    have hw:=hg.wanted hrs hsz
    have e1:a.eval x=.slice none 0 0:=opds_eval hg hev hrs (x,SV.raw (.slice none 0 0)) (by simp)
    unfold opW Oper.wp
    rw [if_pos hw]
    have hrun:(execOp a.eval ⟨some d,op,ty,pos,after,g⟩).run P w=.ok (.value (.slice none 0 0)) w:=by
      rcases hop with rfl | rfl <;> (simp only [execOp,e1];rfl)
    rw [hrun]
    have hG : ∀ b,¬ G b:=hst
    have hks : ∀ j,j∉[k]→upd β k ⟨0,.slice none 0 0⟩ j=β j:=fun j hj=>upd_ne _ _ (by simpa using hj)
    have:=hK (upd β k ⟨0,.slice none 0 0⟩) w (fun _=>False) hks (Star_one.2 ⟨fun x=>by simp [one1,Value.oneCell',Value.ownBlock],by simp,.inl ⟨by simp [one1,Value.oneCell'],by simp⟩⟩) (fun b hb=>hb.elim) (Mod.refl _ _)
    have e:(SV.a (.c (.nv k))).den (upd β k ⟨0,.slice none 0 0⟩)=.slice none 0 0:=by simp [SV.den,Av.den,Cl.den,one1,Value.oneCell']
    rw [e] at this
    rw [Oper.upon_value];exact this
  · refine ⟨fun t y hy=>?_,fun d' hd'=>?_,fun p hp=>by simp at hp,by simp,by simp,fun p hp=>by simp at hp;subst hp;exact .inr hl,f1,f2,fun j t hj _=>f3 j t hj⟩
    · rw [lk_append] at hy
      cases hx':lk gr t with
      | some z => rw [hx'] at hy; simp at hy; subst hy; exact hg.fs hx'
      | none => rw [hx'] at hy; simp at hy; exact opds_fs hev hy
    · simp at hd';subst hd'
      rw [Nat.blt_eq] at hn
      exact hn
  · simp only [Step.outF,lk_cons]
  · rw [lkT_cons,Step.outM_eq]
    by_cases e:j=k
    · subst e;simp [lkP]
    · simp [lkP,e,upd]
theorem K.nilRowS {K : List Step → FL → TL → Prop} {α : Type} (k : Nat) (T : TypeId) (f : α → List Value) (s : Nat) {d : Nat} {op : Op} {x : Operand} {ty : TypeId} {pos : String} {after : Array Edge} {g : Option (Nat × Bool)} {gr : FL} (hop : op = .assign x ∨ op = .move x) (hg : Gd ops ⟨some d, op, ty, pos, after, g⟩ fs gr) (hx : ev fs x = some (SV.raw (.slice none 0 0)))
    (hl:lkT L k=none) (hfr:frB [k] fs L=true) (hn:Nat.blt d n=true)
    (h:RunK P n ops rest ((d,.a (.c (.nv k)))::fs) ((k,some (lrow k T f s ([]:List α)))::L) (fun ss fs' L'=>K (⟨gr++opds [(x,SV.raw (.slice none 0 0))],some d,.a (.c (.nv k)),[],[],[(k,lrow k T f s ([]:List α))],[k]⟩::ss) fs' L')):RunK P n ops (⟨some d,op,ty,pos,after,g⟩::rest) fs L K :=
  RunK.of (fun _ _ _ h=>Run.nilRowS k T f s hop hg hx hl hfr hn h) h
theorem hd_ (l:List Nat) (h:ndB l=true):ndB l=true:=h
theorem lkT_none : ∀ (ti:List (Nat×Tok)) (L:TL) (j:Nat),lkT (ti.map (fun p=>(p.1,none))++L) j=if j∈ti.map (·.1) then none else lkT L j
  | [], L, j => by simp
  | p :: ti, L, j => by
    rw [List.map_cons,List.cons_append,lkT_cons]
    simp only [upd,lkT_none ti L j,List.map_cons,List.mem_cons]
    by_cases h:j=p.1
    · rw [if_pos h,if_pos (.inl h)]
    · rw [if_neg h];simp only [h,false_or]
theorem Run.callC {d : Nat} {c : Call} {ty : TypeId} {pos : String} {after : Array Edge} {g : Option (Nat × Bool)} {gr : FL} {f : FuncId} {args : List SV} {ret : SV} {fr : List Nat} (l : List (Operand × SV)) (tr ti to : List (Nat × Tok)) (args' : Env → List SV)
    (ha : ∀ β,(args' β).map (SV.den β)=args.map (SV.den β))
    (hs : ∀ (β:Env) (w:World) (S:Foot),Star (tr.map fun p=>p.2.r β) w S→SCon P f (args' β) ((0,rd S w)::ti) ret ((0,rd S w)::to) fr)
    (hc:ToFn P c ty l f args) (hg:Gd ops ⟨some d,.call c,ty,pos,after,g⟩ fs gr) (hev : ∀ p∈l,ev fs p.1=some p.2)
    (htk : ∀ p∈tr++ti,lkT L p.1=some p.2) (hnd:((tr++ti).map (·.1)).Nodup) (hnd':((tr++to).map (·.1)).Nodup) (hout : ∀ p∈to,p.1∈ti.map (·.1)∨lkT L p.1=none)
    (hfr:frB fr fs (ti.map (fun p=>(p.1,none))++L)=true) (hfr2 : ∀ k∈tr.flatMap (·.2.ks),k∉fr) (hn:Nat.blt d n=true)
    (h:Run P n ops rest ((d,ret)::fs) (to.map (fun p=>(p.1,some p.2))++(ti.map (fun p=>(p.1,none))++L)) ss fs' L'):Run P n ops (⟨some d,.call c,ty,pos,after,g⟩::rest) fs L (⟨gr++opds l,some d,ret,tr,ti,to,fr⟩::ss) fs' L':=by
  obtain ⟨f1,f2,f3⟩:=frB_spec hfr
  refine Run.cons ?_ ?_ ?_ (fun j=>?_) h
  · intro β a w G K Q hrs hsz hst hK
    have hw:=hg.wanted hrs hsz
    unfold opW Oper.wp
    rw [if_pos hw]
    have h1:=hc β a.eval w (opds_eval hg hev hrs)
    simp only [execOp]
    rw [h1,Oper.upon_enter]
    rw [List.map_append] at hst
    obtain ⟨S,F2,e,dj,hS,hT⟩:=Star_append.1 hst
    have hin:Star (((0,rd S w)::ti).map fun p=>p.2.r β) w G:=⟨S,F2,e,dj,⟨fun b=>Iff.rfl,fun b hb=>⟨hS.lt hb,rfl⟩⟩,hT⟩
    have hcall:=hs β w S hS β w G hin
    rw [ha] at hcall
    refine hcall.mono (fun e' w' he=>?_)
    obtain ⟨β',hb,rfl,F',h2,h3,h4⟩:=he
    obtain ⟨S',F3,eF,dF,hS',hT'⟩:=h2
    have hS2:Star (tr.map fun p=>p.2.r β') w' S:=by
      have:(tr.map fun p=>p.2.r β')=tr.map fun p=>p.2.r β:=List.map_congr_left (fun p hp=>(p.2.sup (fun k hk=>hb k (hfr2 k (List.mem_flatMap.2 ⟨p,hp,hk⟩)))))
      rw [this]
      exact hS.loc (fun b hb=>(hS'.2 b hb).2)
    refine hK β' w' F' hb ?_ h3 h4
    rw [List.map_append]
    have eS : ∀ b,S' b↔S b:=hS'.1
    exact Star_append.2 ⟨S,F3,fun b=>by rw [eF b,eS b],fun b h1 h2=>dF b ((eS b).2 h1) h2,hS2,hT'⟩
  · refine ⟨fun t z hz=>?_,fun d' hd'=>?_,htk,hnd,hnd',hout,f1,f2,fun j t hj hp=>?_⟩
    · rw [lk_append] at hz
      cases hx':lk gr t with
      | some z' => rw [hx'] at hz; simp at hz; subst hz; exact hg.fs hx'
      | none => rw [hx'] at hz; simp at hz; exact opds_fs hev hz
    · simp at hd';subst hd'
      rw [Nat.blt_eq] at hn
      exact hn
    · refine f3 j t ?_
      rw [lkT_none,if_neg]
      · exact hj
      · intro hm
        obtain ⟨p,hp',e⟩:=List.mem_map.1 hm
        exact hp p hp' e
  · simp only [Step.outF,lk_cons]
  · rw [Step.outM_eq]
    have e1 : ∀ (to:List (Nat×Tok)) (L:TL),lkT (to.map (fun p=>(p.1,some p.2))++L) j=(lkP to j).or (lkT L j):=by
      intro to L
      induction to with
      | nil => simp [lkP]
      | cons p to ih =>
        rw [List.map_cons,List.cons_append,lkT_cons]
        simp only [upd,lkP]
        split <;> simp [ih]
    rw [e1,lkT_none]
theorem K.callC {K : List Step → FL → TL → Prop} {d : Nat} {c : Call} {ty : TypeId} {pos : String} {after : Array Edge} {g : Option (Nat × Bool)} {gr : FL} {f : FuncId} {args : List SV} {ret : SV} {fr : List Nat} (l : List (Operand × SV)) (tr ti to : List (Nat × Tok)) (args' : Env → List SV)
    (hs : ∀ (β:Env) (w:World) (S:Foot),Star (tr.map fun p=>p.2.r β) w S→SCon P f (args' β) ((0,rd S w)::ti) ret ((0,rd S w)::to) fr)
    (hc:ToFn P c ty l f args) (hg:Gd ops ⟨some d,.call c,ty,pos,after,g⟩ fs gr) (hev:AllE fs l) (ha : ∀ β,(args' β).map (SV.den β)=args.map (SV.den β))
    (htk:AllT L (tr++ti)) (hnd:ndB ((tr++ti).map (·.1))=true) (hnd':ndB ((tr++to).map (·.1))=true) (hout:to.all (fun p=>(ti.map (·.1)).contains p.1 || (lkT L p.1).isNone)=true)
    (hfr:frB fr fs (ti.map (fun p=>(p.1,none))++L)=true) (hfr2:(tr.flatMap (·.2.ks)).all (fun k=>!fr.contains k)=true) (hn:Nat.blt d n=true)
    (h:RunK P n ops rest ((d,ret)::fs) (to.map (fun p=>(p.1,some p.2))++(ti.map (fun p=>(p.1,none))++L)) (fun ss fs' L'=>K (⟨gr++opds l,some d,ret,tr,ti,to,fr⟩::ss) fs' L')):RunK P n ops (⟨some d,.call c,ty,pos,after,g⟩::rest) fs L K :=
  RunK.of (fun _ _ _ h=>Run.callC l tr ti to args' ha hs hc hg hev.spec htk.spec (ndB_spec hnd) (ndB_spec hnd') (fun p hp=>by
    have:=List.all_eq_true.1 hout p hp
    rw [Bool.or_eq_true] at this
    rcases this with h | h
    · exact .inl (by simpa using h)
    · exact .inr (by simpa using h)) hfr (fun k hk hf=>by
    have:=List.all_eq_true.1 hfr2 k hk
    simp at this;exact this hf) hn h) h
theorem SCon.rd0 {P:Program} {f:FuncId} {args:List SV} {ti to:List (Nat×Tok)} {ret:SV} {fr:List Nat} (h:SCon P f args ti ret to fr) (S:Foot) (w0:World) (hS : ∀ b,¬ S b):SCon P f args ((0,rd S w0)::ti) ret ((0,rd S w0)::to) fr:=by
  intro β w F hs
  obtain ⟨F1,F2,e,d,h1,h2⟩:=hs
  have hF1 : ∀ b,¬ F1 b:=fun b hb=>hS b ((h1.1 b).1 hb)
  refine (h β w F2 h2).mono fun e' w'=>?_
  rintro ⟨β',hb,he,F',h3,h4,h5⟩
  refine ⟨β',hb,he,F',⟨fun _=>False,F',fun b=>by simp,fun b h=>h.elim,⟨fun b=>⟨fun h=>h.elim,fun h=>hS b h⟩,fun b hb=>absurd hb (hS b)⟩,h3⟩,fun b hb=>?_,h5.weaken (fun b _ hb=>(e b).2 (.inr hb))⟩
  rcases h4 b hb with h | h
  · exact .inl ((e b).2 (.inr h))
  · exact .inr h
end
end Go.Proofs.YtgjbibabegabnaaGreat.Sx
namespace Go.Proofs.YtgjbibabegabnaaGreat.Sx
open Go
section
variable {P:Program} {T te:TypeId} {x z:Operand} {j:TypeInfo}
end
section
variable {P:Program} {n:Nat} {ops:Array Oper} {rest:List Oper} {fs fs':FL} {L L':TL} {ss:List Step} {K:List Step→FL→TL→Prop}
end
section
variable {P:Program} {T te:TypeId} {x z:Operand}
end
end Go.Proofs.YtgjbibabegabnaaGreat.Sx
namespace Go.Proofs.YtgjbibabegabnaaGreat.Sx
open Go
section
variable {P:Program} {t ty:TypeId} {x z:Operand}
end
section
variable {P:Program} {n:Nat} {ops:Array Oper} {rest:List Oper} {fs fs':FL} {L L':TL} {ss:List Step}
end
end Go.Proofs.YtgjbibabegabnaaGreat.Sx
namespace Go.Proofs.YtgjbibabegabnaaGreat.Sx
open Go
section
variable {α:Type} {f:α→List Value} {s:Nat} {l:List α}
end
section
variable {P:Program} {n:Nat} {ops:Array Oper} {rest:List Oper} {fs fs':FL} {L L':TL} {ss:List Step}
end
end Go.Proofs.YtgjbibabegabnaaGreat.Sx
namespace Go.Proofs.YtgjbibabegabnaaGreat.Sx
open Go
theorem StarM.same {m:Nat→Option Tok} {β:Env} {w:World} {F:Foot} {n:Nat} {t t':Tok} (h:StarM m β w F) (hm:m n=some t) (hr:t'.r β=t.r β):StarM (upd m n (some t')) β w F:=by
  obtain ⟨φ,h1,h2,h3,h4⟩:=h
  refine ⟨φ,fun k u hk=>?_,fun k hk=>?_,h3,h4⟩
  · by_cases e:k=n
    · subst e
      rw [upd_same] at hk;cases hk
      rw [hr];exact h1 k t hm
    · rw [upd_ne _ _ e] at hk;exact h1 k u hk
  · by_cases e:k=n
    · subst e;rw [upd_same] at hk;cases hk
    · rw [upd_ne _ _ e] at hk;exact h2 k hk
section
variable {C:Ctx} {fs:FL} {L:TL} {R:Act→World→Prop} {α:Type}
theorem nil_star {β : Env} {w : World} {F : Foot} {k : Nat} (T : TypeId) (f : α → List Value) (s : Nat) (hs : StarM (lkT L) β w F) (hL : lkT L k = none) (f3 : ∀ j t, lkT L j = some t → ∀ i ∈ t.ks, i ∉ [k]) :
    StarM (upd (lkT L) k (some (lrow k T f s ([]:List α)))) (upd β k ⟨0,.slice none 0 0⟩) w F:=by
  have hb : ∀ j,j∉[k]→upd β k ⟨0,.slice none 0 0⟩ j=β j:=fun j hj=>upd_ne _ _ (by simpa using hj)
  have h1:=hs.env (β':=upd β k ⟨0,.slice none 0 0⟩) (fun j tk hj i hi=>(hb i (f3 j tk hj i hi)).symm)
  have h2:Star [((lrow k T f s ([]:List α)).r (upd β k ⟨0,.slice none 0 0⟩))] w (fun _=>False):=Star_one.2 ⟨fun x=>by simp [one1,Value.oneCell',Value.ownBlock],by simp,.inl ⟨by simp [one1,Value.oneCell'],by simp⟩⟩
  exact h1.put hL (Star_one.1 h2) (fun _ h=>h.elim) (fun b=>by simp)
theorem At.nilAgg {l l' : List Cl} {t : Nat} (i k : Nat) (T : TypeId) (f : α → List Value) (s : Nat) (hl : lk fs t = some (.a (.agg l))) (hi : l[i]? = some (.v (.slice none 0 0))) (hL : lkT L k = none) (hfr : frB [k] fs L = true) (hl' : l.set i (.nv k) = l')
    (h:At C ((t,.a (.agg l'))::fs) ((k,some (lrow k T f s ([]:List α)))::L) R):At C fs L R:=by
  subst hl'
  obtain ⟨f1,f2,f3⟩:=frB_spec hfr
  rintro a w ⟨β,F,hβ,hfs,hlt,hn,hd,hs,hF,hM⟩
  have hb : ∀ j,j∉[k]→upd β k ⟨0,.slice none 0 0⟩ j=β j:=fun j hj=>upd_ne _ _ (by simpa using hj)
  refine h a w ⟨upd β k ⟨0,.slice none 0 0⟩,F,fun j hj=>?_,fun t' x hx=>?_,fun t' ht=>?_,hn,hd,?_,hF,hM⟩
  · rw [hb j (fun hm=>by simp at hm;subst hm;exact Nat.lt_irrefl _ (Nat.lt_of_lt_of_le hj (f1 j (by simp)))),hβ j hj]
  · rw [lk_cons] at hx
    by_cases e:t'=t
    · subst e
      simp at hx;subst hx
      rw [hfs _ _ hl]
      have h0:SV.den β (.a (.agg l))=SV.den (upd β k ⟨0,.slice none 0 0⟩) (.a (.agg l)):=SV.den_congr _ (fun i hi=>(hb i (f2 _ _ hl i hi)).symm)
      rw [h0]
      simp only [SV.den,Av.den]
      congr 2
      apply List.ext_getElem?
      intro j
      simp only [List.getElem?_map,List.getElem?_set]
      by_cases ej:i=j
      · subst ej
        rw [if_pos rfl,hi]
        have:i<l.length:=(List.getElem?_eq_some_iff.1 hi).1
        rw [if_pos this]
        simp [Cl.den,one1,Value.oneCell']
      · rw [if_neg ej]
    · rw [upd_ne _ _ e] at hx
      rw [hfs _ _ hx]
      exact SV.den_congr x (fun i hi=>(hb i (f2 _ _ hx i hi)).symm)
  · rw [lk_cons] at ht
    by_cases e:t'=t
    · subst e;exact hlt _ (by rw [hl];rfl)
    · rw [upd_ne _ _ e] at ht;exact hlt _ ht
  · rw [lkT_cons];exact nil_star T f s hs hL f3
theorem At.nilBlk {l l' : List Cl} {n : Nat} {Tb : TypeId} (i k : Nat) (T : TypeId) (f : α → List Value) (s : Nat) (hl : lkT L n = some (blk n l Tb)) (hi : l[i]? = some (.v (.slice none 0 0))) (hL : lkT L k = none) (hfr : frB [k] fs L = true) (hl' : l.set i (.nv k) = l')
    (h:At C fs ((n,some (blk n l' Tb))::(k,some (lrow k T f s ([]:List α)))::L) R):At C fs L R:=by
  subst hl'
  obtain ⟨f1,f2,f3⟩:=frB_spec hfr
  rintro a w ⟨β,F,hβ,hfs,hlt,hn,hd,hs,hF,hM⟩
  have hb : ∀ j,j∉[k]→upd β k ⟨0,.slice none 0 0⟩ j=β j:=fun j hj=>upd_ne _ _ (by simpa using hj)
  refine h a w ⟨upd β k ⟨0,.slice none 0 0⟩,F,fun j hj=>?_,fun t' x hx=>?_,hlt,hn,hd,?_,hF,hM⟩
  · rw [hb j (fun hm=>by simp at hm;subst hm;exact Nat.lt_irrefl _ (Nat.lt_of_lt_of_le hj (f1 j (by simp)))),hβ j hj]
  · rw [hfs _ _ hx]
    exact SV.den_congr x (fun i hi=>(hb i (f2 _ _ hx i hi)).symm)
  · rw [lkT_cons,lkT_cons]
    have hne:n≠k:=by rintro rfl;rw [hL] at hl;cases hl
    refine (nil_star T f s hs hL f3).same (t:=blk n l Tb) (by rw [upd_ne _ _ hne];exact hl) ?_
    show blkRes _ _ _=blkRes _ _ _
    congr 1
    apply List.ext_getElem?
    intro j
    simp only [List.getElem?_map,List.getElem?_set]
    by_cases ej:i=j
    · subst ej
      have:i<l.length:=(List.getElem?_eq_some_iff.1 hi).1
      rw [if_pos rfl,hi,if_pos this]
      simp [Cl.den,one1,Value.oneCell']
    · rw [if_neg ej]
end
section
variable {P:Program} {n:Nat} {ops:Array Oper} {rest:List Oper} {fs:FL} {L:TL} {K:List Step→FL→TL→Prop}
theorem g0 {d:Option Nat} {op:Op} {T:TypeId} {pos:String} {after:Array Edge}:Gd ops ⟨d,op,T,pos,after,none⟩ fs []:=gd0 rfl
theorem g1 {d:Option Nat} {op:Op} {T:TypeId} {pos:String} {after:Array Edge} {j:Nat} {want b:Bool} {t:Nat} (hd:(ops[j]?).bind (·.dst)=some t) (hl:lk fs t=some (SV.b b)) (hb:b=want):Gd ops ⟨d,op,T,pos,after,some (j,want)⟩ fs [(t,SV.b want)]:=gd1 rfl hd hl hb
theorem K.mv {d : Nat} {x : Operand} {T : TypeId} {pos : String} {after : Array Edge} {y : SV} (hx : ev fs x = some y) (hn : Nat.blt d n = true)
    (h:RunK P n ops rest ((d,y)::fs) L (fun ss fs' L'=>K (⟨[]++opds [(x,y)],some d,y,[],[],[],[]⟩::ss) fs' L')):RunK P n ops (⟨some d,.move x,T,pos,after,none⟩::rest) fs L K:=Sx.K.move (.inl rfl) g0 hx hn h
theorem K.as {d : Nat} {x : Operand} {T : TypeId} {pos : String} {after : Array Edge} {y : SV} (hx : ev fs x = some y) (hn : Nat.blt d n = true)
    (h:RunK P n ops rest ((d,y)::fs) L (fun ss fs' L'=>K (⟨[]++opds [(x,y)],some d,y,[],[],[],[]⟩::ss) fs' L')):RunK P n ops (⟨some d,.assign x,T,pos,after,none⟩::rest) fs L K:=Sx.K.move (.inr rfl) g0 hx hn h
theorem K.sk {op : Op} {d : Nat} {T : TypeId} {pos : String} {after : Array Edge} {j : Nat} {want b : Bool} {t : Nat} (hdj : (ops[j]?).bind (·.dst) = some t) (hl : lk fs t = some (SV.b b)) (hb : b = !want) (hn : Nat.blt d n = true)
    (h:RunK P n ops rest ((d,SV.raw undef)::fs) L (fun ss fs' L'=>K (⟨[(t,SV.b b)],some d,SV.raw undef,[],[],[],[]⟩::ss) fs' L')):RunK P n ops (⟨some d,op,T,pos,after,some (j,want)⟩::rest) fs L K:=Sx.K.skip rfl rfl hdj hl hb hn h
end
theorem la {α:Type} {e:α→List Value} {s:Nat} {l:List α} {k:Nat} {T:TypeId} {tr:List (Nat×Tok)} {β:Env} {w:World} {S:Foot} (j:Nat) (hj:tr[j]? = some (k,lrow k T e s l)) (hf : ∀ c,(e c).length=s) (hs:Nat.blt 0 s=true) (h:Star (tr.map fun p=>p.2.r β) w S):LArg S w ((lrowV k T e s l).s.den β) e s l :=
  (lrowV_isC hf (Nat.blt_eq▸hs)).larg ⟨k,List.mem_of_getElem? hj⟩ h
def avOf:Option SV→Av
  | some (.a y) => y
  | _ => .agg []
def isAv:Option SV→Bool
  | some (.a _) => true
  | _ => false
def getT (L:TL):List Nat→List (Nat×Tok)
  | [] => []
  | k :: ks => match lkT L k with
    | some t => (k, t) :: getT L ks
    | none => getT L ks
theorem getT_all {L:TL} : ∀ ks,AllT L (getT L ks)
  | [] => trivial
  | k :: ks => by
    unfold getT
    split
    · rename_i t h;exact ⟨h,getT_all ks⟩
    · exact getT_all ks
theorem allR_of {Y:TypeId→TyI} {fs:FL} {L:TL} : ∀ ts:List Nat,ts.all (fun t=>isAv (lk fs t))=true→AllR Y fs L (ts.map fun t=>(.tmp t,avOf (lk fs t)))
  | [], _ => trivial
  | t :: ts, h => by
    simp only [List.all_cons,Bool.and_eq_true] at h
    refine ⟨?_,allR_of ts h.2⟩
    obtain ⟨y,hy⟩ : ∃ y,lk fs t=some (.a y):=by
      have h1:=h.1
      cases hl:lk fs t with
      | none => rw [hl] at h1; cases h1
      | some x =>
        cases x with
        | a y => exact ⟨y, rfl⟩
        | _ => rw [hl] at h1; cases h1
    have e:avOf (lk fs t)=y:=by rw [hy];rfl
    show ResIs Y fs L (.tmp t) (avOf (lk fs t))
    rw [e];exact .tmp hy
section
variable {fs:FL} {L:TL} {P:Program} {fn:Func} {to:List (Nat×Tok)} {ret:SV} {fr:List Nat} {F0:Foot} {W:World} {β0:Env} {N:Nat}
theorem At.dt (Y : Tys P) {e : Exit} (hx : e = .ret ∨ e = .normal) (ts : List Nat) (hr : fn.results = (ts.map ResultVar.tmp).toArray) (ha : ts.all (fun t => isAv (lk fs t)) = true) (hto : getT L (to.map (·.1)) = to) (he : retOf (ts.map fun t => avOf (lk fs t)) = ret)
    (hnd:ndB (to.map (·.1))=true) (hfr:fr.all (fun k=>Nat.ble 20 k)=true) (hks:ksB (ret.ks++to.flatMap (·.2.ks)) fr=true) :
    At ⟨W,F0,β0,N,[]⟩ fs L (bodyPost P fn (Ret F0 W fr β0 ret to) e):=by
  have e1:(ts.map fun t=>((.tmp t:ResultVar),avOf (lk fs t))).map (·.1)=ts.map ResultVar.tmp:=by simp [Function.comp_def]
  have e2:(ts.map fun t=>((.tmp t:ResultVar),avOf (lk fs t))).map (·.2)=ts.map fun t=>avOf (lk fs t):=by simp [Function.comp_def]
  refine At.done (to':=getT L (to.map (·.1))) Y (ts.map fun t=>(.tmp t,avOf (lk fs t))) ?_ (allR_of ts ha) (getT_all _) hto ?_ ?_ hfr ?_ hx
  · rw [e1];exact hr
  · rw [e2];exact he
  · rw [hto];exact hnd
  · rw [e2,he,hto];exact hks
theorem At.dr (Y : Tys P) (ts : List Nat) (hr : fn.results = (ts.map ResultVar.tmp).toArray) (ha : ts.all (fun t => isAv (lk fs t)) = true) (hto : getT L (to.map (·.1)) = to) (he : retOf (ts.map fun t => avOf (lk fs t)) = ret)
    (hnd:ndB (to.map (·.1))=true) (hfr:fr.all (fun k=>Nat.ble 20 k)=true) (hks:ksB (ret.ks++to.flatMap (·.2.ks)) fr=true) :
    At ⟨W,F0,β0,N,[]⟩ fs L (bodyPost P fn (Ret F0 W fr β0 ret to) .ret):=At.dt Y (.inl rfl) ts hr ha hto he hnd hfr hks
theorem At.dn (Y : Tys P) (ts : List Nat) (hr : fn.results = (ts.map ResultVar.tmp).toArray) (ha : ts.all (fun t => isAv (lk fs t)) = true) (hto : getT L (to.map (·.1)) = to) (he : retOf (ts.map fun t => avOf (lk fs t)) = ret)
    (hnd:ndB (to.map (·.1))=true) (hfr:fr.all (fun k=>Nat.ble 20 k)=true) (hks:ksB (ret.ks++to.flatMap (·.2.ks)) fr=true) :
    At ⟨W,F0,β0,N,[]⟩ fs L (bodyPost P fn (Ret F0 W fr β0 ret to) .normal):=At.dt Y (.inr rfl) ts hr ha hto he hnd hfr hks
end
abbrev sm (l:List (Nat×Tok)):TL:=l.map fun p=>(p.1,some p.2)
theorem oi {α:Type} {a b:α} (h:some a=some b):b=a:=(Option.some.inj h).symm
def JP (C:Ctx) {σ:Type} (Fs:σ→FL) (Tl:σ→List (Nat×Tok)):Act→World→Prop:=fun a w=>∃ s',Holds C (lk (Fs s')) (lkT ((Tl s').map fun p=>(p.1,some p.2))) a w
def LP (C:Ctx) {σ:Type} (Fs:σ→FL) (Tl:σ→List (Nat×Tok)) (μ:σ→Nat) (s:σ):Act→World→Prop:=fun a w=>∃ s',μ s'<μ s∧Holds C (lk (Fs s')) (lkT ((Tl s').map fun p=>(p.1,some p.2))) a w
section
variable {C:Ctx} {P:Program} {fs:FL} {L:TL} {Q:Exit→Act→World→Prop}
theorem G.sJ {σ:Type} (Fs:σ→FL) (Tl:σ→List (Nat×Tok)) {x y:Code} (h:G C P fs L x (Exit.then (JP C Fs Tl) Q)) (hy : ∀ s:σ,G C P (Fs s) ((Tl s).map fun p=>(p.1,some p.2)) y Q):G C P fs L (.seq x y) Q:=G.seqJ Fs Tl h hy
theorem At.jd {σ : Type} {Fs : σ → FL} {Tl : σ → List (Nat × Tok)} (s' : σ) (ρ : List (Nat × Nat)) (ts : List Tok) (hρ : ρ.all (fun p => Nat.ble 20 p.1) = true) (hf : RenF (rn ρ) fs (Fs s')) (hl : RenL (rn ρ) L (Tl s') ts) (hnd : ndB (((Tl s').map (·.1)).map (rn ρ)) = true) :
    At C fs L (Exit.then (JP C Fs Tl) Q .normal):=At.joined s' ρ ts hρ hf hl hnd
theorem G.lp {σ : Type} (Fs : σ → FL) (Tl : σ → List (Nat × Tok)) (μ : σ → Nat) (s0 : σ) {c : Code} (h0 : At C fs L (fun a w => Holds C (lk (Fs s0)) (lkT ((Tl s0).map fun p => (p.1, some p.2))) a w))
    (hr : ∀ s:σ,G C P (Fs s) ((Tl s).map fun p=>(p.1,some p.2)) c (Exit.then (LP C Fs Tl μ s) Q)):G C P fs L (.loop c) Q:=G.loop Fs Tl μ s0 h0 hr
theorem At.ag {σ : Type} {Fs : σ → FL} {Tl : σ → List (Nat × Tok)} {μ : σ → Nat} {s : σ} (s' : σ) (ρ : List (Nat × Nat)) (ts : List Tok) (hμ : μ s' < μ s) (hρ : ρ.all (fun p => Nat.ble 20 p.1) = true) (hf : RenF (rn ρ) fs (Fs s')) (hl : RenL (rn ρ) L (Tl s') ts) (hnd : ndB (((Tl s').map (·.1)).map (rn ρ)) = true) :
    At C fs L (Exit.then (LP C Fs Tl μ s) Q .normal):=At.again s' ρ ts hμ hρ hf hl hnd
end
def evD (fs:FL) (o:Operand):SV:=(ev fs o).getD (SV.raw undef)
def opl (fs:FL) (az:Array Operand):List (Operand×SV):=az.toList.map fun o=>(o,evD fs o)
def fnl (f:FuncId) (fs:FL) (az:Array Operand):List (Operand×SV):=(.func f,SV.raw (.func (.func f) #[] #[]))::opl fs az
theorem fnl_all {f:FuncId} {fs:FL} {az:Array Operand} (h:az.toList.all (fun o=>(ev fs o).isSome)=true):AllE fs (fnl f fs az):=by
  refine ⟨rfl,?_⟩
  unfold opl
  generalize az.toList=l at *
  induction l with
  | nil => trivial
  | cons o l ih =>
    simp only [List.all_cons,Bool.and_eq_true] at h
    refine ⟨?_,ih h.2⟩
    obtain ⟨x,hx⟩:=Option.isSome_iff_exists.1 h.1
    show ev fs o=some (evD fs o)
    simp [evD,hx]
theorem fnl_to {P:Program} {f:FuncId} {fs:FL} {az:Array Operand} {ats:Array TypeId} {ty:TypeId} (hf:fnB P f=true):ToFn P ⟨.value (.func f),az,ats⟩ ty (fnl f fs az) f ((opl fs az).map (·.2)) :=
  toFn_func hf (by unfold opl;simp [Function.comp_def])
theorem getT_of {L:TL} {tr:List (Nat×Tok)} (h:getT L (tr.map (·.1))=tr):AllT L tr:=h▸getT_all _
section
variable {P:Program} {n:Nat} {ops:Array Oper} {rest:List Oper} {fs:FL} {L:TL} {K:List Step→FL→TL→Prop} {d:Nat} {az:Array Operand} {ats:Array TypeId} {ty:TypeId} {pos:String} {after:Array Edge} {g:Option (Nat×Bool)} {gr:FL} {f:FuncId} {args:List SV} {ret:SV} {tr ti to:List (Nat×Tok)} {fr:List Nat} {args':Env→List SV}
theorem K.cR (hf : fnB P f = true) (hs : SCon P f args tr ret tr fr) (hg : Gd ops ⟨some d, .call ⟨.value (.func f), az, ats⟩, ty, pos, after, g⟩ fs gr) (ha : (opl fs az).map (·.2) = args) (hev : az.toList.all (fun o => (ev fs o).isSome) = true) (htk : getT L (tr.map (·.1)) = tr) (hb : (ndB (tr.map (·.1)) && (frB fr fs L && Nat.blt d n)) = true)
    (h:RunK P n ops rest ((d,ret)::fs) L (fun ss fs' L'=>K (⟨gr++opds (fnl f fs az),some d,ret,tr,[],[],fr⟩::ss) fs' L')):RunK P n ops (⟨some d,.call ⟨.value (.func f),az,ats⟩,ty,pos,after,g⟩::rest) fs L K:=by
  subst ha
  simp only [Bool.and_eq_true] at hb
  exact Sx.K.callR (fnl f fs az) hs (fnl_to hf) hg (fnl_all hev) (getT_of htk) hb.1 hb.2.1 hb.2.2 h
theorem K.c0 (hf : fnB P f = true) (hs : SCon P f args ti ret to fr) (hg : Gd ops ⟨some d, .call ⟨.value (.func f), az, ats⟩, ty, pos, after, g⟩ fs gr) (ha : (opl fs az).map (·.2) = args) (hev : az.toList.all (fun o => (ev fs o).isSome) = true) (htk : getT L (ti.map (·.1)) = ti)
    (hb:(ndB (ti.map (·.1))&&(ndB (to.map (·.1))&&(ti.all (fun p=>(to.map (·.1)).contains p.1)&&(to.all (fun p=>(ti.map (·.1)).contains p.1 || (lkT L p.1).isNone)&&(frB fr fs L&&Nat.blt d n)))))=true)
    (h:RunK P n ops rest ((d,ret)::fs) (to.map (fun p=>(p.1,some p.2))++L) (fun ss fs' L'=>K (⟨gr++opds (fnl f fs az),some d,ret,[],ti,to,fr⟩::ss) fs' L')):RunK P n ops (⟨some d,.call ⟨.value (.func f),az,ats⟩,ty,pos,after,g⟩::rest) fs L K:=by
  subst ha
  simp only [Bool.and_eq_true] at hb
  exact Sx.K.call0 (fnl f fs az) hs (fnl_to hf) hg (fnl_all hev) (getT_of htk) hb.1 hb.2.1 hb.2.2.1 hb.2.2.2.1 hb.2.2.2.2.1 hb.2.2.2.2.2 h
theorem K.cV (hf : fnB P f = true) (ks : List Nat) (hs : ∀ (β : Env) (w : World) (S : Foot), Star ((getT L ks).map fun p => p.2.r β) w S → SCon P f (args' β) ((0, rd S w) :: ti) ret ((0, rd S w) :: to) fr) (hg : Gd ops ⟨some d, .call ⟨.value (.func f), az, ats⟩, ty, pos, after, g⟩ fs gr) (ha : ∀ β, (args' β).map (SV.den β) = ((opl fs az).map (·.2)).map (SV.den β))
    (hev:az.toList.all (fun o=>(ev fs o).isSome)=true) (htk:getT L (ti.map (·.1))=ti)
    (hb:(ndB ((getT L ks++ti).map (·.1))&&(ndB ((getT L ks++to).map (·.1))&&(ti.all (fun p=>(to.map (·.1)).contains p.1)&&(to.all (fun p=>(ti.map (·.1)).contains p.1 || (lkT L p.1).isNone)&&(frB fr fs L&&Nat.blt d n)))))=true)
    (h:RunK P n ops rest ((d,ret)::fs) (to.map (fun p=>(p.1,some p.2))++L) (fun ss fs' L'=>K (⟨gr++opds (fnl f fs az),some d,ret,getT L ks,ti,to,fr⟩::ss) fs' L')):RunK P n ops (⟨some d,.call ⟨.value (.func f),az,ats⟩,ty,pos,after,g⟩::rest) fs L K:=by
  simp only [Bool.and_eq_true] at hb
  have ht:AllT L (getT L ks++ti):=by
    have : ∀ l:List (Nat×Tok),AllT L l→AllT L (l++ti):=fun l=>by
      induction l with
      | nil => intro _; exact getT_of htk
      | cons p l ih => intro h; exact ⟨h.1, ih h.2⟩
    exact this _ (getT_all _)
  exact Sx.K.callV (fnl f fs az) (getT L ks) ti to args' hs (fnl_to hf) hg (fnl_all hev) ha ht hb.1 hb.2.1 hb.2.2.1 hb.2.2.2.1 hb.2.2.2.2.1 hb.2.2.2.2.2 h
theorem K.cC (hf : fnB P f = true) (ks : List Nat) (hs : ∀ (β : Env) (w : World) (S : Foot), Star ((getT L ks).map fun p => p.2.r β) w S → SCon P f (args' β) ((0, rd S w) :: ti) ret ((0, rd S w) :: to) fr) (hg : Gd ops ⟨some d, .call ⟨.value (.func f), az, ats⟩, ty, pos, after, g⟩ fs gr) (ha : ∀ β, (args' β).map (SV.den β) = ((opl fs az).map (·.2)).map (SV.den β))
    (hev:az.toList.all (fun o=>(ev fs o).isSome)=true) (htk:getT L (ti.map (·.1))=ti)
    (hb:(ndB ((getT L ks++ti).map (·.1))&&(ndB ((getT L ks++to).map (·.1))&&(to.all (fun p=>(ti.map (·.1)).contains p.1 || (lkT L p.1).isNone)&&(frB fr fs (ti.map (fun p=>(p.1,none))++L)&&(((getT L ks).flatMap (·.2.ks)).all (fun k=>!fr.contains k)&&Nat.blt d n)))))=true)
    (h:RunK P n ops rest ((d,ret)::fs) (to.map (fun p=>(p.1,some p.2))++(ti.map (fun p=>(p.1,none))++L)) (fun ss fs' L'=>K (⟨gr++opds (fnl f fs az),some d,ret,getT L ks,ti,to,fr⟩::ss) fs' L')):RunK P n ops (⟨some d,.call ⟨.value (.func f),az,ats⟩,ty,pos,after,g⟩::rest) fs L K:=by
  simp only [Bool.and_eq_true] at hb
  have ht:AllT L (getT L ks++ti):=by
    have : ∀ l:List (Nat×Tok),AllT L l→AllT L (l++ti):=fun l=>by
      induction l with
      | nil => intro _; exact getT_of htk
      | cons p l ih => intro h; exact ⟨h.1, ih h.2⟩
    exact this _ (getT_all _)
  exact Sx.K.callC (fnl f fs az) (getT L ks) ti to args' hs (fnl_to hf) hg (fnl_all hev) ha ht hb.1 hb.2.1 hb.2.2.1 hb.2.2.2.1 hb.2.2.2.2.1 hb.2.2.2.2.2 h
end
section
variable {C:Ctx} {P:Program} {fs:FL} {L:TL} {Q Q':Exit→Act→World→Prop}
theorem At.ns {x z:Code} (h:G C P fs L x (Exit.then (fun a w=>z.wp P Q a w) Q)):At C fs L (Exit.then (fun a w=>(Code.seq x z).wp P Q a w) Q' .normal):=At.next (G.seq h)
theorem At.nr {z:Code} {id:Nat} {l:List Oper} (h:RunK P C.n l.toArray l fs L (fun _ fs' L'=>At C fs' L' (Exit.then (fun a w=>z.wp P Q a w) Q .normal))):At C fs L (Exit.then (fun a w=>(Code.seq (.region id l.toArray false) z).wp P Q a w) Q' .normal):=At.ns (G.rg h)
end
end Go.Proofs.YtgjbibabegabnaaGreat.Sx
namespace Go.Proofs.YtgjbibabegabnaaGreat.Sx
open Go
section
variable {P:Program} {n:Nat} {ops:Array Oper} {rest:List Oper} {fs fs':FL} {L L':TL} {ss:List Step}
end
end Go.Proofs.YtgjbibabegabnaaGreat.Sx
namespace Go.Proofs.YtgjbibabegabnaaGreat.Sx
open Go
section
variable {α:Type} {e:α→List Value} {s:Nat} {S:Foot} {W0:World}
end
section
variable {P:Program} {n:Nat} {ops:Array Oper} {rest:List Oper} {fs fs':FL} {L L':TL} {ss:List Step}
theorem sn_eql {P:Program} {T e:TypeId} {x z:Operand} (h:P.underlying T=some (.slice e)) (a:Option Addr) (l c:Nat) (w:World):(do eqGuard .eql T x z (.slice a l c) (.slice none 0 0);binOp .eql T (.slice a l c) (.slice none 0 0):Sem Value).run P w=.ok (.bool a.isNone) w :=
  eql_of rfl rfl (run_equal_slice_nil w T e a l c h)
end
section
variable {H:Type} {enc:TypeId×Value→H} {P:Program} {w:World} {base:Nat} {spare:Nat→Bool} {held:Bool}
end
end Go.Proofs.YtgjbibabegabnaaGreat.Sx
namespace Go.Proofs.YtgjbibabegabnaaGreat
open Go Go.Proofs.YtgjbibabegabnaaGreat.Sx
def tysF:TypeId→TyI
  | 1 => .one (.nilFunc)
  | 2 => .one (.int .i64 0)
  | 3 => .one (.int .i64 0)
  | 4 => .one (.bool false)
  | 5 => .one (.int .u8 0)
  | 6 => .one (.int .u8 0)
  | 7 => .st 4 [(0, 1, 2), (1, 1, 3), (2, 1, 4), (3, 1, 6)] [.int .i64 0, .int .i64 0, .bool false, .int .u8 0]
  | 8 => .st 4 [(0, 1, 2), (1, 1, 3), (2, 1, 4), (3, 1, 6)] [.int .i64 0, .int .i64 0, .bool false, .int .u8 0]
  | 9 => .one (.string ⟨#[]⟩)
  | 10 => .one (.string ⟨#[]⟩)
  | 11 => .one (.string ⟨#[]⟩)
  | 12 => .one (.int .u64 0)
  | 13 => .st 2 [(0, 1, 9), (1, 1, 12)] [.string ⟨#[]⟩, .int .u64 0]
  | 14 => .st 2 [(0, 1, 9), (1, 1, 12)] [.string ⟨#[]⟩, .int .u64 0]
  | 15 => .one (.pointer .none)
  | 16 => .one (.pointer .none)
  | 17 => .one (.pointer .none)
  | 18 => .st 1 [(0, 1, 17)] [.pointer .none]
  | 19 => .st 1 [(0, 1, 17)] [.pointer .none]
  | 20 => .one (.nilIface)
  | 21 => .one (.int .i32 0)
  | 22 => .one (.nilFunc)
  | 23 => .one (.pointer .none)
  | 24 => .one (.nilFunc)
  | 25 => .one (.int .i64 0)
  | 26 => .one (.nilFunc)
  | 27 => .st 2 [(0, 1, 3), (1, 1, 3)] [.int .i64 0, .int .i64 0]
  | 28 => .st 2 [(0, 1, 3), (1, 1, 3)] [.int .i64 0, .int .i64 0]
  | 29 => .one (.nilFunc)
  | 30 => .one (.nilFunc)
  | 31 => .one (.nilFunc)
  | 32 => .one (.nilFunc)
  | 33 => .one (.slice .none 0 0)
  | 34 => .one (.slice .none 0 0)
  | 36 => .one (.nilFunc)
  | 37 => .st 5 [(0, 1, 3), (1, 1, 3), (2, 1, 4), (3, 2, 28)] [.int .i64 0, .int .i64 0, .bool false, .int .i64 0, .int .i64 0]
  | 38 => .st 5 [(0, 1, 3), (1, 1, 3), (2, 1, 4), (3, 2, 28)] [.int .i64 0, .int .i64 0, .bool false, .int .i64 0, .int .i64 0]
  | 39 => .one (.nilFunc)
  | 40 => .one (.slice .none 0 0)
  | 41 => .st 1 [(0, 1, 40)] [.slice .none 0 0]
  | 42 => .st 1 [(0, 1, 40)] [.slice .none 0 0]
  | 43 => .one (.nilFunc)
  | 44 => .st 4 [(0, 1, 3), (1, 1, 4), (2, 2, 28)] [.int .i64 0, .bool false, .int .i64 0, .int .i64 0]
  | 45 => .st 4 [(0, 1, 3), (1, 1, 4), (2, 2, 28)] [.int .i64 0, .bool false, .int .i64 0, .int .i64 0]
  | 47 => .one (.nilFunc)
  | 48 => .one (.nilFunc)
  | 49 => .one (.nilFunc)
  | 50 => .one (.nilFunc)
  | 51 => .one (.nilFunc)
  | 52 => .one (.nilFunc)
  | 53 => .one (.nilFunc)
  | 54 => .one (.slice .none 0 0)
  | 55 => .one (.nilFunc)
  | 56 => .one (.pointer .none)
  | 57 => .st 2 [(0, 1, 3), (1, 1, 56)] [.int .i64 0, .pointer .none]
  | 58 => .st 2 [(0, 1, 3), (1, 1, 56)] [.int .i64 0, .pointer .none]
  | 59 => .one (.nilFunc)
  | 60 => .one (.pointer .none)
  | 61 => .st 9 [(0, 4, 45), (4, 1, 4), (5, 1, 56), (6, 1, 56), (7, 1, 3), (8, 1, 60)] [.int .i64 0, .bool false, .int .i64 0, .int .i64 0, .bool false, .pointer .none, .pointer .none, .int .i64 0, .pointer .none]
  | 62 => .st 9 [(0, 4, 45), (4, 1, 4), (5, 1, 56), (6, 1, 56), (7, 1, 3), (8, 1, 60)] [.int .i64 0, .bool false, .int .i64 0, .int .i64 0, .bool false, .pointer .none, .pointer .none, .int .i64 0, .pointer .none]
  | 63 => .st 2 [(0, 1, 54), (1, 1, 54)] [.slice .none 0 0, .slice .none 0 0]
  | 64 => .st 2 [(0, 1, 54), (1, 1, 54)] [.slice .none 0 0, .slice .none 0 0]
  | 66 => .one (.nilFunc)
  | 67 => .one (.nilFunc)
  | 68 => .one (.nilFunc)
  | 69 => .one (.nilFunc)
  | 70 => .one (.nilFunc)
  | 71 => .one (.nilFunc)
  | 72 => .one (.nilFunc)
  | 73 => .one (.nilFunc)
  | 74 => .one (.nilFunc)
  | 75 => .one (.pointer .none)
  | 76 => .st 3 [(0, 1, 4), (1, 2, 28)] [.bool false, .int .i64 0, .int .i64 0]
  | 77 => .st 3 [(0, 1, 4), (1, 2, 28)] [.bool false, .int .i64 0, .int .i64 0]
  | 78 => .st 4 [(0, 1, 75), (1, 3, 77)] [.pointer .none, .bool false, .int .i64 0, .int .i64 0]
  | 79 => .st 4 [(0, 1, 75), (1, 3, 77)] [.pointer .none, .bool false, .int .i64 0, .int .i64 0]
  | 80 => .one (.nilFunc)
  | 81 => .st 4 [(0, 2, 28), (2, 1, 4), (3, 1, 3)] [.int .i64 0, .int .i64 0, .bool false, .int .i64 0]
  | 82 => .st 4 [(0, 2, 28), (2, 1, 4), (3, 1, 3)] [.int .i64 0, .int .i64 0, .bool false, .int .i64 0]
  | 84 => .one (.nilFunc)
  | 85 => .one (.int .i64 0)
  | 86 => .one (.nilFunc)
  | 87 => .one (.nilFunc)
  | 88 => .one (.nilFunc)
  | 89 => .one (.nilFunc)
  | 90 => .one (.nilFunc)
  | 91 => .one (.nilFunc)
  | 92 => .one (.nilFunc)
  | 93 => .one (.nilFunc)
  | 94 => .one (.nilFunc)
  | 95 => .one (.nilFunc)
  | 96 => .one (.nilFunc)
  | 97 => .one (.pointer .none)
  | 98 => .st 6 [(0, 1, 3), (1, 1, 97), (2, 1, 75), (3, 1, 75), (4, 1, 75), (5, 1, 3)] [.int .i64 0, .pointer .none, .pointer .none, .pointer .none, .pointer .none, .int .i64 0]
  | 99 => .st 6 [(0, 1, 3), (1, 1, 97), (2, 1, 75), (3, 1, 75), (4, 1, 75), (5, 1, 3)] [.int .i64 0, .pointer .none, .pointer .none, .pointer .none, .pointer .none, .int .i64 0]
  | 100 => .st 8 [(0, 4, 45), (4, 1, 4), (5, 3, 77)] [.int .i64 0, .bool false, .int .i64 0, .int .i64 0, .bool false, .bool false, .int .i64 0, .int .i64 0]
  | 101 => .st 8 [(0, 4, 45), (4, 1, 4), (5, 3, 77)] [.int .i64 0, .bool false, .int .i64 0, .int .i64 0, .bool false, .bool false, .int .i64 0, .int .i64 0]
  | 102 => .st 3 [(0, 1, 3), (1, 1, 3), (2, 1, 3)] [.int .i64 0, .int .i64 0, .int .i64 0]
  | 103 => .st 3 [(0, 1, 3), (1, 1, 3), (2, 1, 3)] [.int .i64 0, .int .i64 0, .int .i64 0]
  | 104 => .st 16 [(0, 3, 103), (3, 3, 103), (6, 1, 3), (7, 1, 3), (8, 2, 28), (10, 3, 77), (13, 3, 77)] [.int .i64 0, .int .i64 0, .int .i64 0, .int .i64 0, .int .i64 0, .int .i64 0, .int .i64 0, .int .i64 0, .int .i64 0, .int .i64 0, .bool false, .int .i64 0, .int .i64 0, .bool false, .int .i64 0, .int .i64 0]
  | 105 => .st 16 [(0, 3, 103), (3, 3, 103), (6, 1, 3), (7, 1, 3), (8, 2, 28), (10, 3, 77), (13, 3, 77)] [.int .i64 0, .int .i64 0, .int .i64 0, .int .i64 0, .int .i64 0, .int .i64 0, .int .i64 0, .int .i64 0, .int .i64 0, .int .i64 0, .bool false, .int .i64 0, .int .i64 0, .bool false, .int .i64 0, .int .i64 0]
  | 107 => .one (.nilFunc)
  | 108 => .one (.nilFunc)
  | 109 => .one (.nilFunc)
  | 110 => .one (.nilFunc)
  | 111 => .one (.slice .none 0 0)
  | 112 => .one (.nilFunc)
  | 113 => .one (.nilFunc)
  | 114 => .one (.nilFunc)
  | 115 => .one (.nilFunc)
  | 116 => .one (.nilFunc)
  | 117 => .one (.pointer .none)
  | 118 => .st 2 [(0, 1, 3), (1, 1, 3)] [.int .i64 0, .int .i64 0]
  | 119 => .st 2 [(0, 1, 3), (1, 1, 3)] [.int .i64 0, .int .i64 0]
  | 120 => .st 3 [(0, 1, 117), (1, 2, 119)] [.pointer .none, .int .i64 0, .int .i64 0]
  | 121 => .st 3 [(0, 1, 117), (1, 2, 119)] [.pointer .none, .int .i64 0, .int .i64 0]
  | 122 => .st 10 [(0, 4, 82), (4, 2, 119), (6, 2, 119), (8, 1, 3), (9, 1, 85)] [.int .i64 0, .int .i64 0, .bool false, .int .i64 0, .int .i64 0, .int .i64 0, .int .i64 0, .int .i64 0, .int .i64 0, .int .i64 0]
  | 123 => .st 10 [(0, 4, 82), (4, 2, 119), (6, 2, 119), (8, 1, 3), (9, 1, 85)] [.int .i64 0, .int .i64 0, .bool false, .int .i64 0, .int .i64 0, .int .i64 0, .int .i64 0, .int .i64 0, .int .i64 0, .int .i64 0]
  | 124 => .one (.nilFunc)
  | 125 => .one (.nilFunc)
  | 126 => .one (.nilFunc)
  | 127 => .one (.slice .none 0 0)
  | 129 => .one (.nilFunc)
  | 130 => .one (.slice .none 0 0)
  | 131 => .one (.nilFunc)
  | 132 => .one (.nilFunc)
  | 133 => .one (.nilFunc)
  | 134 => .one (.nilFunc)
  | 135 => .one (.nilFunc)
  | 136 => .one (.nilFunc)
  | 137 => .one (.nilFunc)
  | 138 => .one (.nilFunc)
  | 139 => .st 29 [(0, 8, 101), (8, 2, 119), (10, 2, 119), (12, 1, 3), (13, 16, 105)] [.int .i64 0, .bool false, .int .i64 0, .int .i64 0, .bool false, .bool false, .int .i64 0, .int .i64 0, .int .i64 0, .int .i64 0, .int .i64 0, .int .i64 0, .int .i64 0, .int .i64 0, .int .i64 0, .int .i64 0, .int .i64 0, .int .i64 0, .int .i64 0, .int .i64 0, .int .i64 0, .int .i64 0, .int .i64 0, .bool false, .int .i64 0, .int .i64 0, .bool false, .int .i64 0, .int .i64 0]
  | 140 => .st 29 [(0, 8, 101), (8, 2, 119), (10, 2, 119), (12, 1, 3), (13, 16, 105)] [.int .i64 0, .bool false, .int .i64 0, .int .i64 0, .bool false, .bool false, .int .i64 0, .int .i64 0, .int .i64 0, .int .i64 0, .int .i64 0, .int .i64 0, .int .i64 0, .int .i64 0, .int .i64 0, .int .i64 0, .int .i64 0, .int .i64 0, .int .i64 0, .int .i64 0, .int .i64 0, .int .i64 0, .int .i64 0, .bool false, .int .i64 0, .int .i64 0, .bool false, .int .i64 0, .int .i64 0]
  | 141 => .one (.nilFunc)
  | 142 => .one (.pointer .none)
  | 143 => .st 3 [(0, 1, 142), (1, 2, 119)] [.pointer .none, .int .i64 0, .int .i64 0]
  | 144 => .st 3 [(0, 1, 142), (1, 2, 119)] [.pointer .none, .int .i64 0, .int .i64 0]
  | 145 => .one (.nilFunc)
  | 146 => .one (.nilFunc)
  | 147 => .one (.nilFunc)
  | 148 => .one (.nilFunc)
  | 150 => .one (.nilFunc)
  | 152 => .one (.nilFunc)
  | 153 => .one (.nilFunc)
  | 154 => .one (.nilFunc)
  | 155 => .one (.nilFunc)
  | 156 => .one (.nilFunc)
  | 157 => .one (.nilFunc)
  | 158 => .one (.nilFunc)
  | 160 => .one (.nilFunc)
  | 161 => .one (.slice .none 0 0)
  | 162 => .one (.nilFunc)
  | 163 => .one (.nilFunc)
  | 164 => .one (.nilFunc)
  | 165 => .one (.nilFunc)
  | 166 => .one (.nilFunc)
  | 167 => .one (.nilFunc)
  | 168 => .one (.nilFunc)
  | 169 => .one (.nilFunc)
  | 171 => .one (.nilFunc)
  | 172 => .one (.nilFunc)
  | 173 => .one (.nilFunc)
  | 174 => .one (.nilFunc)
  | 175 => .one (.nilFunc)
  | 176 => .one (.nilFunc)
  | 177 => .one (.nilFunc)
  | 178 => .one (.nilFunc)
  | 179 => .one (.nilFunc)
  | 180 => .one (.pointer .none)
  | 181 => .one (.nilFunc)
  | 182 => .st 12 [(0, 10, 123), (10, 1, 3), (11, 1, 4)] [.int .i64 0, .int .i64 0, .bool false, .int .i64 0, .int .i64 0, .int .i64 0, .int .i64 0, .int .i64 0, .int .i64 0, .int .i64 0, .int .i64 0, .bool false]
  | 183 => .st 12 [(0, 10, 123), (10, 1, 3), (11, 1, 4)] [.int .i64 0, .int .i64 0, .bool false, .int .i64 0, .int .i64 0, .int .i64 0, .int .i64 0, .int .i64 0, .int .i64 0, .int .i64 0, .int .i64 0, .bool false]
  | 184 => .one (.nilFunc)
  | 185 => .one (.nilFunc)
  | 186 => .one (.nilFunc)
  | 187 => .one (.nilFunc)
  | 188 => .one (.int .u64 0)
  | 190 => .one (.nilFunc)
  | 191 => .one (.nilFunc)
  | 192 => .one (.pointer .none)
  | 193 => .one (.nilFunc)
  | 194 => .st 31 [(0, 29, 140), (29, 1, 3), (30, 1, 4)] [.int .i64 0, .bool false, .int .i64 0, .int .i64 0, .bool false, .bool false, .int .i64 0, .int .i64 0, .int .i64 0, .int .i64 0, .int .i64 0, .int .i64 0, .int .i64 0, .int .i64 0, .int .i64 0, .int .i64 0, .int .i64 0, .int .i64 0, .int .i64 0, .int .i64 0, .int .i64 0, .int .i64 0, .int .i64 0, .bool false, .int .i64 0, .int .i64 0, .bool false, .int .i64 0, .int .i64 0, .int .i64 0, .bool false]
  | 195 => .st 31 [(0, 29, 140), (29, 1, 3), (30, 1, 4)] [.int .i64 0, .bool false, .int .i64 0, .int .i64 0, .bool false, .bool false, .int .i64 0, .int .i64 0, .int .i64 0, .int .i64 0, .int .i64 0, .int .i64 0, .int .i64 0, .int .i64 0, .int .i64 0, .int .i64 0, .int .i64 0, .int .i64 0, .int .i64 0, .int .i64 0, .int .i64 0, .int .i64 0, .int .i64 0, .bool false, .int .i64 0, .int .i64 0, .bool false, .int .i64 0, .int .i64 0, .int .i64 0, .bool false]
  | 196 => .one (.nilFunc)
  | 197 => .one (.nilFunc)
  | 198 => .one (.nilFunc)
  | 199 => .one (.slice .none 0 0)
  | 200 => .st 5 [(0, 1, 199), (1, 1, 161), (2, 1, 3), (3, 1, 3), (4, 1, 3)] [.slice .none 0 0, .slice .none 0 0, .int .i64 0, .int .i64 0, .int .i64 0]
  | 201 => .st 5 [(0, 1, 199), (1, 1, 161), (2, 1, 3), (3, 1, 3), (4, 1, 3)] [.slice .none 0 0, .slice .none 0 0, .int .i64 0, .int .i64 0, .int .i64 0]
  | 203 => .one (.nilFunc)
  | 205 => .one (.nilFunc)
  | 206 => .one (.slice .none 0 0)
  | 207 => .st 5 [(0, 1, 206), (1, 1, 161), (2, 1, 3), (3, 1, 3), (4, 1, 3)] [.slice .none 0 0, .slice .none 0 0, .int .i64 0, .int .i64 0, .int .i64 0]
  | 208 => .st 5 [(0, 1, 206), (1, 1, 161), (2, 1, 3), (3, 1, 3), (4, 1, 3)] [.slice .none 0 0, .slice .none 0 0, .int .i64 0, .int .i64 0, .int .i64 0]
  | 209 => .one (.nilFunc)
  | 210 => .one (.int .i64 0)
  | 212 => .one (.nilFunc)
  | 213 => .one (.nilFunc)
  | 214 => .one (.nilFunc)
  | 216 => .one (.nilFunc)
  | 217 => .one (.nilFunc)
  | 218 => .one (.int .u32 0)
  | 219 => .one (.nilFunc)
  | 220 => .one (.int .u64 0)
  | 221 => .one (.nilFunc)
  | 222 => .one (.nilFunc)
  | 223 => .one (.nilFunc)
  | 224 => .one (.nilFunc)
  | 225 => .one (.nilFunc)
  | 226 => .one (.nilFunc)
  | 227 => .one (.nilFunc)
  | 228 => .one (.nilFunc)
  | 229 => .one (.nilFunc)
  | 230 => .one (.int .u64 0)
  | 231 => .one (.nilFunc)
  | 232 => .one (.nilFunc)
  | 233 => .one (.nilFunc)
  | 234 => .one (.pointer .none)
  | 235 => .one (.nilFunc)
  | 236 => .one (.pointer .none)
  | 238 => .one (.nilFunc)
  | 239 => .one (.nilFunc)
  | 240 => .st 4 [(0, 1, 17), (1, 1, 17), (2, 1, 17), (3, 1, 9)] [.pointer .none, .pointer .none, .pointer .none, .string ⟨#[]⟩]
  | 241 => .st 4 [(0, 1, 17), (1, 1, 17), (2, 1, 17), (3, 1, 9)] [.pointer .none, .pointer .none, .pointer .none, .string ⟨#[]⟩]
  | 245 => .one (.int .u8 0)
  | 246 => .one (.int .u8 0)
  | 247 => .one (.nilFunc)
  | 248 => .one (.pointer .none)
  | 249 => .one (.int .i32 0)
  | 250 => .one (.int .i32 0)
  | 251 => .st 11 [(0, 1, 12), (1, 1, 12), (2, 1, 218), (3, 1, 245), (4, 1, 5), (5, 1, 5), (6, 1, 246), (7, 1, 247), (8, 1, 248), (9, 1, 249), (10, 1, 250)] [.int .u64 0, .int .u64 0, .int .u32 0, .int .u8 0, .int .u8 0, .int .u8 0, .int .u8 0, .nilFunc, .pointer .none, .int .i32 0, .int .i32 0]
  | 252 => .st 11 [(0, 1, 12), (1, 1, 12), (2, 1, 218), (3, 1, 245), (4, 1, 5), (5, 1, 5), (6, 1, 246), (7, 1, 247), (8, 1, 248), (9, 1, 249), (10, 1, 250)] [.int .u64 0, .int .u64 0, .int .u32 0, .int .u8 0, .int .u8 0, .int .u8 0, .int .u8 0, .nilFunc, .pointer .none, .int .i32 0, .int .i32 0]
  | 253 => .one (.nilFunc)
  | 254 => .one (.nilFunc)
  | 255 => .one (.nilFunc)
  | 256 => .one (.nilFunc)
  | 257 => .one (.nilFunc)
  | 258 => .one (.nilFunc)
  | 259 => .one (.nilFunc)
  | 260 => .one (.nilFunc)
  | 261 => .one (.nilFunc)
  | 262 => .one (.nilFunc)
  | 263 => .one (.nilFunc)
  | 264 => .one (.pointer .none)
  | 265 => .one (.nilFunc)
  | _ => .none
theorem tysB:(List.range 266).all (fun T=>tyB Tryz.prog T (tysF T))=true:=by kernel_rfl
def Y:Tys Tryz.prog:=⟨fun T=>match Nat.blt T 266 with | true=>tysF T | false=>.none,fun T=>by
  cases h:Nat.blt T 266 with
  | true =>
    rw [Nat.blt_eq] at h
    exact tyOk_of (List.all_eq_true.1 tysB T (List.mem_range.2 h))
  | false => trivial⟩
def cfL:List Nat:=[3,4,5,6,7,8,9,10,11,12,13,14,15,16,17,18,19,20,21,22,23,24,25,26,27,28,29,30,31,32,33,34,35,36,37,38,39,40,41,42,43,44,45,46,47,48,49,50,51,52,53,54,55,56,57,58,59,60,61,62,63,64,65,66,67,68,69,70,71,72,73,74,75,76,77,78,79,80,81,82,83,84,85,86,87,88,89,90,91,92,93,94,95,96,97,98,99,100,101,102,103,104,105,106,107,108,109,110,111,112,113,114,115,116,117,118,119,120,121,122,123,124,125,126,127,128,129,130,131,132,133,134,135,136,137,138,139,140,141,142,143,144,145,146,147,148,149,150,151,152,153,154,155,156,157,158,159,160,161,162,163,164,165,166,167,168,169,170,171,172,173,174,175,176,201,202,203,206,207,208,209,211,212,213]
theorem cfB:cfL.all (fun f=>fnB Tryz.prog f)=true:=by kernel_rfl
theorem cf (f:Nat) (h:cfL.contains f=true):fnB Tryz.prog f=true:=List.all_eq_true.1 cfB f (by simpa using h)
theorem mixed:Tryz.prog.follows .mixedOrders=true:=by kernel_rfl
theorem t1:Y.f 1=.one (.nilFunc):=by kernel_rfl
theorem t2:Y.f 2=.one (.int .i64 0):=by kernel_rfl
theorem t3:Y.f 3=.one (.int .i64 0):=by kernel_rfl
theorem t4:Y.f 4=.one (.bool false):=by kernel_rfl
theorem t5:Y.f 5=.one (.int .u8 0):=by kernel_rfl
theorem t28:Y.f 28=.st 2 [(0,1,3),(1,1,3)] [.int .i64 0,.int .i64 0]:=by kernel_rfl
theorem t40:Y.f 40=.one (.slice .none 0 0):=by kernel_rfl
theorem t42:Y.f 42=.st 1 [(0,1,40)] [.slice .none 0 0]:=by kernel_rfl
theorem t45:Y.f 45=.st 4 [(0,1,3),(1,1,4),(2,2,28)] [.int .i64 0,.bool false,.int .i64 0,.int .i64 0]:=by kernel_rfl
theorem t56:Y.f 56=.one (.pointer .none):=by kernel_rfl
theorem t58:Y.f 58=.st 2 [(0,1,3),(1,1,56)] [.int .i64 0,.pointer .none]:=by kernel_rfl
theorem t60:Y.f 60=.one (.pointer .none):=by kernel_rfl
theorem t62:Y.f 62=.st 9 [(0,4,45),(4,1,4),(5,1,56),(6,1,56),(7,1,3),(8,1,60)] [.int .i64 0,.bool false,.int .i64 0,.int .i64 0,.bool false,.pointer .none,.pointer .none,.int .i64 0,.pointer .none]:=by kernel_rfl
theorem t64:Y.f 64=.st 2 [(0,1,54),(1,1,54)] [.slice .none 0 0,.slice .none 0 0]:=by kernel_rfl
theorem t75:Y.f 75=.one (.pointer .none):=by kernel_rfl
theorem t77:Y.f 77=.st 3 [(0,1,4),(1,2,28)] [.bool false,.int .i64 0,.int .i64 0]:=by kernel_rfl
theorem t79:Y.f 79=.st 4 [(0,1,75),(1,3,77)] [.pointer .none,.bool false,.int .i64 0,.int .i64 0]:=by kernel_rfl
theorem t82:Y.f 82=.st 4 [(0,2,28),(2,1,4),(3,1,3)] [.int .i64 0,.int .i64 0,.bool false,.int .i64 0]:=by kernel_rfl
theorem t85:Y.f 85=.one (.int .i64 0):=by kernel_rfl
theorem t97:Y.f 97=.one (.pointer .none):=by kernel_rfl
theorem t99:Y.f 99=.st 6 [(0,1,3),(1,1,97),(2,1,75),(3,1,75),(4,1,75),(5,1,3)] [.int .i64 0,.pointer .none,.pointer .none,.pointer .none,.pointer .none,.int .i64 0]:=by kernel_rfl
theorem t101:Y.f 101=.st 8 [(0,4,45),(4,1,4),(5,3,77)] [.int .i64 0,.bool false,.int .i64 0,.int .i64 0,.bool false,.bool false,.int .i64 0,.int .i64 0]:=by kernel_rfl
theorem t103:Y.f 103=.st 3 [(0,1,3),(1,1,3),(2,1,3)] [.int .i64 0,.int .i64 0,.int .i64 0]:=by kernel_rfl
theorem t105:Y.f 105=.st 16 [(0,3,103),(3,3,103),(6,1,3),(7,1,3),(8,2,28),(10,3,77),(13,3,77)] [.int .i64 0,.int .i64 0,.int .i64 0,.int .i64 0,.int .i64 0,.int .i64 0,.int .i64 0,.int .i64 0,.int .i64 0,.int .i64 0,.bool false,.int .i64 0,.int .i64 0,.bool false,.int .i64 0,.int .i64 0]:=by kernel_rfl
theorem t117:Y.f 117=.one (.pointer .none):=by kernel_rfl
theorem t119:Y.f 119=.st 2 [(0,1,3),(1,1,3)] [.int .i64 0,.int .i64 0]:=by kernel_rfl
theorem t121:Y.f 121=.st 3 [(0,1,117),(1,2,119)] [.pointer .none,.int .i64 0,.int .i64 0]:=by kernel_rfl
theorem t123:Y.f 123=.st 10 [(0,4,82),(4,2,119),(6,2,119),(8,1,3),(9,1,85)] [.int .i64 0,.int .i64 0,.bool false,.int .i64 0,.int .i64 0,.int .i64 0,.int .i64 0,.int .i64 0,.int .i64 0,.int .i64 0]:=by kernel_rfl
theorem t140:Y.f 140=.st 29 [(0,8,101),(8,2,119),(10,2,119),(12,1,3),(13,16,105)] [.int .i64 0,.bool false,.int .i64 0,.int .i64 0,.bool false,.bool false,.int .i64 0,.int .i64 0,.int .i64 0,.int .i64 0,.int .i64 0,.int .i64 0,.int .i64 0,.int .i64 0,.int .i64 0,.int .i64 0,.int .i64 0,.int .i64 0,.int .i64 0,.int .i64 0,.int .i64 0,.int .i64 0,.int .i64 0,.bool false,.int .i64 0,.int .i64 0,.bool false,.int .i64 0,.int .i64 0]:=by kernel_rfl
theorem t142:Y.f 142=.one (.pointer .none):=by kernel_rfl
theorem t144:Y.f 144=.st 3 [(0,1,142),(1,2,119)] [.pointer .none,.int .i64 0,.int .i64 0]:=by kernel_rfl
theorem t161:Y.f 161=.one (.slice .none 0 0):=by kernel_rfl
theorem t183:Y.f 183=.st 12 [(0,10,123),(10,1,3),(11,1,4)] [.int .i64 0,.int .i64 0,.bool false,.int .i64 0,.int .i64 0,.int .i64 0,.int .i64 0,.int .i64 0,.int .i64 0,.int .i64 0,.int .i64 0,.bool false]:=by kernel_rfl
theorem t195:Y.f 195=.st 31 [(0,29,140),(29,1,3),(30,1,4)] [.int .i64 0,.bool false,.int .i64 0,.int .i64 0,.bool false,.bool false,.int .i64 0,.int .i64 0,.int .i64 0,.int .i64 0,.int .i64 0,.int .i64 0,.int .i64 0,.int .i64 0,.int .i64 0,.int .i64 0,.int .i64 0,.int .i64 0,.int .i64 0,.int .i64 0,.int .i64 0,.int .i64 0,.int .i64 0,.bool false,.int .i64 0,.int .i64 0,.bool false,.int .i64 0,.int .i64 0,.int .i64 0,.bool false]:=by kernel_rfl
theorem t199:Y.f 199=.one (.slice .none 0 0):=by kernel_rfl
theorem t201:Y.f 201=.st 5 [(0,1,199),(1,1,161),(2,1,3),(3,1,3),(4,1,3)] [.slice .none 0 0,.slice .none 0 0,.int .i64 0,.int .i64 0,.int .i64 0]:=by kernel_rfl
theorem t206:Y.f 206=.one (.slice .none 0 0):=by kernel_rfl
theorem t208:Y.f 208=.st 5 [(0,1,206),(1,1,161),(2,1,3),(3,1,3),(4,1,3)] [.slice .none 0 0,.slice .none 0 0,.int .i64 0,.int .i64 0,.int .i64 0]:=by kernel_rfl
theorem el34:El Tryz.prog 34 45 4 32:=el_of (by kernel_rfl)
theorem el40:El Tryz.prog 40 79 4 32:=el_of (by kernel_rfl)
theorem el111:El Tryz.prog 111 101 8 64:=el_of (by kernel_rfl)
theorem el161:El Tryz.prog 161 3 1 8:=el_of (by kernel_rfl)
theorem el199:El Tryz.prog 199 195 31 248:=el_of (by kernel_rfl)
theorem el206:El Tryz.prog 206 183 12 96:=el_of (by kernel_rfl)
end Go.Proofs.YtgjbibabegabnaaGreat
namespace Go.Proofs.YtgjbibabegabnaaGreat
open Go Go.Proofs.YtgjbibabegabnaaGreat.Sx
structure TItem where
  key:Int
  id:Int
structure TOp where
  time:Int
  insert:Bool
  item:TItem
structure TTook where
  found:Bool
  item:TItem
structure TMark where
  op:TOp
  here:Bool
  took:TTook
structure TTide where
  n:Int
  sum:Int
  low:Int
structure TSwell where
  count:TTide
  weight:TTide
  deletes:Int
  free:Int
  most:TItem
  gone:TTook
  least:TTook
structure TRef where
  index:Int
  gen:Int
structure TNode (E A:Type) where
  e:E
  left:TRef
  right:TRef
  size:Int
  sum:A
def eTNode_TMark_TSwell (x:TNode TMark TSwell):List Value:=[.int .i64 x.e.op.time,.bool x.e.op.insert,.int .i64 x.e.op.item.key,.int .i64 x.e.op.item.id,.bool x.e.here,.bool x.e.took.found,.int .i64 x.e.took.item.key,.int .i64 x.e.took.item.id,.int .i64 x.left.index,.int .i64 x.left.gen,.int .i64 x.right.index,.int .i64 x.right.gen,.int .i64 x.size,.int .i64 x.sum.count.n,.int .i64 x.sum.count.sum,.int .i64 x.sum.count.low,.int .i64 x.sum.weight.n,.int .i64 x.sum.weight.sum,.int .i64 x.sum.weight.low,.int .i64 x.sum.deletes,.int .i64 x.sum.free,.int .i64 x.sum.most.key,.int .i64 x.sum.most.id,.bool x.sum.gone.found,.int .i64 x.sum.gone.item.key,.int .i64 x.sum.gone.item.id,.bool x.sum.least.found,.int .i64 x.sum.least.item.key,.int .i64 x.sum.least.item.id]
theorem eTNode_TMark_TSwell_len : ∀ x,(eTNode_TMark_TSwell x).length=29:=fun _=>rfl
theorem eTNode_TMark_TSwell_one : ∀ x,(eTNode_TMark_TSwell x).all Value.oneCell'=true:=fun _=>rfl
abbrev zTItem:TItem:=⟨0,0⟩
abbrev zTOp:TOp:=⟨0,false,zTItem⟩
abbrev zTTook:TTook:=⟨false,zTItem⟩
abbrev zTMark:TMark:=⟨zTOp,false,zTTook⟩
abbrev zTTide:TTide:=⟨0,0,0⟩
abbrev zTSwell:TSwell:=⟨zTTide,zTTide,0,0,zTItem,zTTook,zTTook⟩
abbrev TSize:Type:=Int
abbrev zTSize:TSize:=0
structure TSlot where
  item:TItem
  eaten:Bool
  time:Int
def eTNode_TSlot_TSize (x:TNode TSlot TSize):List Value:=[.int .i64 x.e.item.key,.int .i64 x.e.item.id,.bool x.e.eaten,.int .i64 x.e.time,.int .i64 x.left.index,.int .i64 x.left.gen,.int .i64 x.right.index,.int .i64 x.right.gen,.int .i64 x.size,.int .i64 x.sum]
theorem eTNode_TSlot_TSize_len : ∀ x,(eTNode_TSlot_TSize x).length=10:=fun _=>rfl
theorem eTNode_TSlot_TSize_one : ∀ x,(eTNode_TSlot_TSize x).all Value.oneCell'=true:=fun _=>rfl
abbrev zTSlot:TSlot:=⟨zTItem,false,0⟩
structure TS (E A:Type) where
  p:Pool (TNode E A)
  r:TRef
structure TQueue where
  capacity:Int
  marks:TS TMark TSwell
  present:TS TSlot TSize
  gone:TS TSlot TSize
  times:TS TSlot TSize
  excess:Int
abbrev zTRef:TRef:=⟨0,0⟩
structure TChange where
  in_:List TItem
  out:List TItem
def eTItem (x:TItem):List Value:=[.int .i64 x.key,.int .i64 x.id]
theorem eTItem_len : ∀ x,(eTItem x).length=2:=fun _=>rfl
def eTRef (x:TRef):List Value:=[.int .i64 x.index,.int .i64 x.gen]
def eTMark (x:TMark):List Value:=[.int .i64 x.op.time,.bool x.op.insert,.int .i64 x.op.item.key,.int .i64 x.op.item.id,.bool x.here,.bool x.took.found,.int .i64 x.took.item.key,.int .i64 x.took.item.id]
theorem eTMark_len : ∀ x,(eTMark x).length=8:=fun _=>rfl
theorem eTMark_one : ∀ x,(eTMark x).all Value.oneCell'=true:=fun _=>rfl
def eTSlot (x:TSlot):List Value:=[.int .i64 x.item.key,.int .i64 x.item.id,.bool x.eaten,.int .i64 x.time]
def eTTide (x:TTide):List Value:=[.int .i64 x.n,.int .i64 x.sum,.int .i64 x.low]
def eTSwell (x:TSwell):List Value:=[.int .i64 x.count.n,.int .i64 x.count.sum,.int .i64 x.count.low,.int .i64 x.weight.n,.int .i64 x.weight.sum,.int .i64 x.weight.low,.int .i64 x.deletes,.int .i64 x.free,.int .i64 x.most.key,.int .i64 x.most.id,.bool x.gone.found,.int .i64 x.gone.item.key,.int .i64 x.gone.item.id,.bool x.least.found,.int .i64 x.least.item.key,.int .i64 x.least.item.id]
def eTTook (x:TTook):List Value:=[.bool x.found,.int .i64 x.item.key,.int .i64 x.item.id]
def eTOp (x:TOp):List Value:=[.int .i64 x.time,.bool x.insert,.int .i64 x.item.key,.int .i64 x.item.id]
theorem eTOp_len : ∀ x,(eTOp x).length=4:=fun _=>rfl
theorem eTOp_one : ∀ x,(eTOp x).all Value.oneCell'=true:=fun _=>rfl
structure Ops (E A:Type) where
  cmp:Nat→E→E→Option Int
  sum:Nat→E→Option A
  plus:Nat→A→A→Option A
  zE:E
  zA:A
abbrev zNode {E A:Type} (O:Ops E A):TNode E A:=⟨O.zE,⟨0,0⟩,⟨0,0⟩,0,O.zA⟩
def Tree_New.f {E A:Type} (O:Ops E A) (k:Nat) (a0:Int):Option (TRef×Pool (TNode E A)):=some (zTRef,(⟨[],[],capOf a0,0,0⟩:Pool (TNode E A)))
def Tree_get.f {E A:Type} (O:Ops E A) (k:Nat) (p1:Pool (TNode E A)) (a1:TRef):Option (TNode E A):=bif (a1.gen == 0) then (some (zNode O)) else ((pGet (zNode O) p1 a1.index a1.gen).bind fun x1=>some x1.1)
def Tree_Len.f {E A:Type} (O:Ops E A) (k:Nat) (p1:Pool (TNode E A)) (rt0:TRef):Option (Int):=(Tree_get.f O k p1 rt0).bind fun x1=>some x1.size
def Tree_Find.l0 {E A:Type} (O:Ops E A) (k:Nat) (p1:Pool (TNode E A)) (a1:E):Nat→TRef→Option (Sum (E×Bool) (Unit))
  | 0, _ => none
  | n + 1, v1 => bif (v1.gen != 0) then ((Tree_get.f O k p1 v1).bind fun x2 => (O.cmp k a1 x2.e).bind fun x3 => bif (x3 == 0) then (some (Sum.inl (x2.e, true))) else (bif (decide (x3 < 0)) then (Tree_Find.l0 O k p1 a1 n x2.left) else (Tree_Find.l0 O k p1 a1 n x2.right))) else (some (Sum.inr ()))
def Tree_Find.f {E A:Type} (O:Ops E A) (k:Nat) (p1:Pool (TNode E A)) (rt0:TRef) (a1:E):Option (E×Bool):=(Tree_Find.l0 O k p1 a1 k rt0).bind (Sum.elim (fun r=>some r) (fun w1=>some (O.zE,false)))
def Tree_weight.f {E A:Type} (O:Ops E A) (k:Nat) (p1:Pool (TNode E A)) (a1:TRef):Option (Int):=(Tree_get.f O k p1 a1).bind fun x1=>some (w64 (x1.size+1))
def Tree_Rank.l0 {E A:Type} (O:Ops E A) (k:Nat) (p1:Pool (TNode E A)) (a1:E):Nat→(Int×TRef)→Option (Int)
  | 0, _ => none
  | n + 1, (v1, v2) => bif (v2.gen != 0) then ((Tree_get.f O k p1 v2).bind fun x2 => (O.cmp k a1 x2.e).bind fun x3 => bif (decide (x3 ≤ 0)) then (Tree_Rank.l0 O k p1 a1 n (v1, x2.left)) else ((Tree_weight.f O k p1 x2.left).bind fun x4 => Tree_Rank.l0 O k p1 a1 n ((w64 (v1 + x4)), x2.right))) else (some v1)
def Tree_Rank.f {E A:Type} (O:Ops E A) (k:Nat) (p1:Pool (TNode E A)) (rt0:TRef) (a1:E):Option (Int):=(Tree_Rank.l0 O k p1 a1 k (0,rt0)).bind fun x1=>some x1
def Tree_lastOf.r {E A:Type} (O:Ops E A) (k:Nat):Nat→Pool (TNode E A)→TRef→Int→A→(A→A→Option Bool)→Option (Int)
  | 0, _, _, _, _, _ => none
  | n + 1, p1, a1, a2, a3, fn4 => (Tree_get.f O k p1 a1).bind fun x1 => (bif (x1.size == 0) then (some (Sum.inl (-1))) else (bif (decide (a2 ≤ 0)) then (some (Sum.inl (-1))) else (bif (decide (a2 ≥ x1.size)) then ((fn4 a3 x1.sum).bind fun x3 => bif (!x3) then (some (Sum.inl (-1))) else (some (Sum.inr ()))) else (some (Sum.inr ()))))).bind (Sum.elim (fun r => some r) (fun w2 => (Tree_get.f O k p1 x1.left).bind fun x4 => (O.plus k a3 x4.sum).bind fun x5 => (O.sum k x1.e).bind fun x6 => (O.plus k x5 x6).bind fun x7 => (Tree_lastOf.r O k n p1 x1.right (w64 ((w64 (a2 - x4.size)) - 1)) x7 fn4).bind fun x8 => bif (decide (x8 ≥ 0)) then (some (w64 ((w64 (x8 + x4.size)) + 1))) else (bif (decide (a2 > x4.size)) then ((fn4 x5 x6).bind fun x9 => bif x9 then (some x4.size) else ((Tree_lastOf.r O k n p1 x1.left a2 a3 fn4).bind fun x10 => some x10)) else ((Tree_lastOf.r O k n p1 x1.left a2 a3 fn4).bind fun x11 => some x11))))
def Tree_lastOf.f {E A:Type} (O:Ops E A) (k:Nat) (p1:Pool (TNode E A)) (a1:TRef) (a2:Int) (a3:A) (fn4:A→A→Option Bool):Option (Int):=Tree_lastOf.r O k k p1 a1 a2 a3 fn4
def Tree_Last.f {E A:Type} (O:Ops E A) (k:Nat) (p1:Pool (TNode E A)) (rt0:TRef) (a1:Int) (fn2:A→A→Option Bool):Option (Int):=(Tree_Len.f O k p1 rt0).bind fun x1=>(Tree_lastOf.f O k p1 rt0 (gmin (gmax a1 0) x1) O.zA fn2).bind fun x2=>some x2
def Tree_lay.f {E A:Type} (O:Ops E A) (k:Nat) (p1:Pool (TNode E A)) (a1:TRef) (a2:TRef) (a3:TRef):Option (TRef×Pool (TNode E A)):=(Tree_get.f O k p1 a1).bind fun x1=>(Tree_get.f O k p1 a2).bind fun x2=>(Tree_get.f O k p1 a3).bind fun x3=>(O.sum k x1.e).bind fun x4=>(O.plus k x2.sum x4).bind fun x5=>(O.plus k x5 x3.sum).bind fun x6=>(pSet p1 a1.index a1.gen (TNode.mk x1.e a2 a3 (w64 ((w64 (x2.size+1))+x3.size)) x6)).bind fun x7=>some (a1,x7.2)
def Tree_turnRight.f {E A:Type} (O:Ops E A) (k:Nat) (p1:Pool (TNode E A)) (a1:TRef):Option (TRef×Pool (TNode E A)):=(Tree_get.f O k p1 a1).bind fun x1=>(Tree_get.f O k p1 x1.left).bind fun x2=>(Tree_lay.f O k p1 a1 x2.right x1.right).bind fun x3=>(Tree_lay.f O k x3.2 x1.left x2.left a1).bind fun x4=>some (x4.1,x4.2)
def Tree_turnLeft.f {E A:Type} (O:Ops E A) (k:Nat) (p1:Pool (TNode E A)) (a1:TRef):Option (TRef×Pool (TNode E A)):=(Tree_get.f O k p1 a1).bind fun x1=>(Tree_get.f O k p1 x1.right).bind fun x2=>(Tree_lay.f O k p1 a1 x1.left x2.left).bind fun x3=>(Tree_lay.f O k x3.2 x1.right a1 x2.right).bind fun x4=>some (x4.1,x4.2)
def Tree_balance.f {E A:Type} (O:Ops E A) (k:Nat) (p1:Pool (TNode E A)) (a1:TRef):Option (TRef×Pool (TNode E A)):=(Tree_get.f O k p1 a1).bind fun x1=>(Tree_weight.f O k p1 x1.left).bind fun x2=>(Tree_weight.f O k p1 x1.right).bind fun x3=>bif (decide (x3>(w64 (3*x2)))) then ((Tree_get.f O k p1 x1.right).bind fun x4=>(Tree_weight.f O k p1 x4.left).bind fun x5=>(Tree_weight.f O k p1 x4.right).bind fun x6=>bif (decide (x5≥(w64 (2*x6)))) then ((Tree_turnRight.f O k p1 x1.right).bind fun x7=>(Tree_lay.f O k x7.2 a1 x1.left x7.1).bind fun x8=>(Tree_turnLeft.f O k x8.2 a1).bind fun x9=>some (x9.1,x9.2)) else ((Tree_turnLeft.f O k p1 a1).bind fun x10=>some (x10.1,x10.2))) else (bif (decide (x2>(w64 (3*x3)))) then ((Tree_get.f O k p1 x1.left).bind fun x11=>(Tree_weight.f O k p1 x11.right).bind fun x12=>(Tree_weight.f O k p1 x11.left).bind fun x13=>bif (decide (x12≥(w64 (2*x13)))) then ((Tree_turnLeft.f O k p1 x1.left).bind fun x14=>(Tree_lay.f O k x14.2 a1 x14.1 x1.right).bind fun x15=>(Tree_turnRight.f O k x15.2 a1).bind fun x16=>some (x16.1,x16.2)) else ((Tree_turnRight.f O k p1 a1).bind fun x17=>some (x17.1,x17.2))) else (some (a1,p1)))
def Tree_link.r {E A:Type} (O:Ops E A) (k:Nat):Nat→Pool (TNode E A)→TRef→TRef→TRef→Option (TRef×Pool (TNode E A))
  | 0, _, _, _, _ => none
  | n + 1, p1, a1, a2, a3 => (Tree_weight.f O k p1 a1).bind fun x1 => (Tree_weight.f O k p1 a3).bind fun x2 => bif (decide (x2 > (w64 (3 * x1)))) then ((Tree_get.f O k p1 a3).bind fun x3 => (Tree_link.r O k n p1 a1 a2 x3.left).bind fun x4 => (Tree_lay.f O k x4.2 a3 x4.1 x3.right).bind fun x5 => (Tree_balance.f O k x5.2 x5.1).bind fun x6 => some (x6.1, x6.2)) else (bif (decide (x1 > (w64 (3 * x2)))) then ((Tree_get.f O k p1 a1).bind fun x7 => (Tree_link.r O k n p1 x7.right a2 a3).bind fun x8 => (Tree_lay.f O k x8.2 a1 x7.left x8.1).bind fun x9 => (Tree_balance.f O k x9.2 x9.1).bind fun x10 => some (x10.1, x10.2)) else ((Tree_lay.f O k p1 a2 a1 a3).bind fun x11 => some (x11.1, x11.2)))
def Tree_link.f {E A:Type} (O:Ops E A) (k:Nat) (p1:Pool (TNode E A)) (a1:TRef) (a2:TRef) (a3:TRef):Option (TRef×Pool (TNode E A)):=Tree_link.r O k k p1 a1 a2 a3
def Tree_put.r {E A:Type} (O:Ops E A) (k:Nat):Nat→Pool (TNode E A)→TRef→E→Option (TRef×Bool×Pool (TNode E A))
  | 0, _, _, _ => none
  | n + 1, p1, a1, a2 => bif (a1.gen == 0) then ((O.sum k a2).bind fun x1 => (pPut (zNode O) p1 (TNode.mk a2 zTRef zTRef 1 x1)).bind fun x2 => some ((TRef.mk x2.1.1.1 x2.1.1.2), x2.1.2, x2.2)) else ((Tree_get.f O k p1 a1).bind fun x3 => (O.cmp k a2 x3.e).bind fun x4 => bif (decide (x4 < 0)) then ((Tree_put.r O k n p1 x3.left a2).bind fun x5 => bif (!x5.2.1) then (some (a1, false, x5.2.2)) else ((Tree_link.f O k x5.2.2 x5.1 a1 x3.right).bind fun x6 => some (x6.1, true, x6.2))) else (bif (decide (x4 > 0)) then ((Tree_put.r O k n p1 x3.right a2).bind fun x7 => bif (!x7.2.1) then (some (a1, false, x7.2.2)) else ((Tree_link.f O k x7.2.2 x3.left a1 x7.1).bind fun x8 => some (x8.1, true, x8.2))) else ((pSet p1 a1.index a1.gen (TNode.mk a2 x3.left x3.right x3.size x3.sum)).bind fun x9 => (Tree_lay.f O k x9.2 a1 x3.left x3.right).bind fun x10 => some (x10.1, true, x10.2))))
def Tree_put.f {E A:Type} (O:Ops E A) (k:Nat) (p1:Pool (TNode E A)) (a1:TRef) (a2:E):Option (TRef×Bool×Pool (TNode E A)):=Tree_put.r O k k p1 a1 a2
def Tree_Put.f {E A:Type} (O:Ops E A) (k:Nat) (p1:Pool (TNode E A)) (rt0:TRef) (a1:E):Option (Bool×TRef×Pool (TNode E A)):=(Tree_put.f O k p1 rt0 a1).bind fun x1=>bif x1.2.1 then (some (x1.2.1,x1.1,x1.2.2)) else (some (x1.2.1,rt0,x1.2.2))
def Tree_between.r {E A:Type} (O:Ops E A) (k:Nat):Nat→Pool (TNode E A)→TRef→Int→Int→Option (A)
  | 0, _, _, _, _ => none
  | n + 1, p1, a1, a2, a3 => (Tree_get.f O k p1 a1).bind fun x1 => (bif (decide (a2 ≥ a3)) then (some (Sum.inl O.zA)) else (bif (decide (a2 ≥ x1.size)) then (some (Sum.inl O.zA)) else (bif (decide (a3 ≤ 0)) then (some (Sum.inl O.zA)) else (bif (x1.size == 0) then (some (Sum.inl O.zA)) else (some (Sum.inr ())))))).bind (Sum.elim (fun r => some r) (fun w2 => (bif (decide (a2 ≤ 0)) then (bif (decide (a3 ≥ x1.size)) then (some (Sum.inl x1.sum)) else (some (Sum.inr ()))) else (some (Sum.inr ()))).bind (Sum.elim (fun r => some r) (fun w3 => (Tree_get.f O k p1 x1.left).bind fun x4 => (Tree_between.r O k n p1 x1.left a2 a3).bind fun x5 => (bif (decide (a2 ≤ x4.size)) then (bif (decide (a3 > x4.size)) then ((O.sum k x1.e).bind fun x7 => (O.plus k x5 x7).bind fun x8 => some x8) else (some x5)) else (some x5)).bind fun x6 => (Tree_between.r O k n p1 x1.right (w64 ((w64 (a2 - x4.size)) - 1)) (w64 ((w64 (a3 - x4.size)) - 1))).bind fun x9 => (O.plus k x6 x9).bind fun x10 => some x10))))
def Tree_between.f {E A:Type} (O:Ops E A) (k:Nat) (p1:Pool (TNode E A)) (a1:TRef) (a2:Int) (a3:Int):Option (A):=Tree_between.r O k k p1 a1 a2 a3
def Tree_Between.f {E A:Type} (O:Ops E A) (k:Nat) (p1:Pool (TNode E A)) (rt0:TRef) (a1:Int) (a2:Int):Option (A):=(Tree_Len.f O k p1 rt0).bind fun x1=>(Tree_between.f O k p1 rt0 (gmin (gmax a1 0) x1) (gmin (gmax a2 0) x1)).bind fun x2=>some x2
def Tree_first.r {E A:Type} (O:Ops E A) (k:Nat):Nat→Pool (TNode E A)→TRef→Int→A→(A→A→Option Bool)→Option (Int×A)
  | 0, _, _, _, _, _ => none
  | n + 1, p1, a1, a2, a3, fn4 => (Tree_get.f O k p1 a1).bind fun x1 => (bif (x1.size == 0) then ((O.plus k a3 x1.sum).bind fun x3 => some (Sum.inl ((-1), x3))) else (bif (decide (a2 ≥ x1.size)) then ((O.plus k a3 x1.sum).bind fun x4 => some (Sum.inl ((-1), x4))) else (bif (decide (a2 ≤ 0)) then ((fn4 a3 x1.sum).bind fun x5 => bif (!x5) then ((O.plus k a3 x1.sum).bind fun x6 => some (Sum.inl ((-1), x6))) else (some (Sum.inr ()))) else (some (Sum.inr ()))))).bind (Sum.elim (fun r => some r) (fun w2 => (Tree_get.f O k p1 x1.left).bind fun x7 => (Tree_first.r O k n p1 x1.left a2 a3 fn4).bind fun x8 => bif (decide (x8.1 ≥ 0)) then (some (x8.1, x8.2)) else ((O.sum k x1.e).bind fun x9 => (bif (decide (a2 ≤ x7.size)) then ((fn4 x8.2 x9).bind fun x11 => bif x11 then (some (Sum.inl (x7.size, x8.2))) else (some (Sum.inr ()))) else (some (Sum.inr ()))).bind (Sum.elim (fun r => some r) (fun w10 => (O.plus k x8.2 x9).bind fun x12 => (Tree_first.r O k n p1 x1.right (w64 ((w64 (a2 - x7.size)) - 1)) x12 fn4).bind fun x13 => bif (decide (x13.1 ≥ 0)) then (some ((w64 (x13.1 + (w64 (x7.size + 1)))), x13.2)) else (some (x13.1, x13.2)))))))
def Tree_first.f {E A:Type} (O:Ops E A) (k:Nat) (p1:Pool (TNode E A)) (a1:TRef) (a2:Int) (a3:A) (fn4:A→A→Option Bool):Option (Int×A):=Tree_first.r O k k p1 a1 a2 a3 fn4
def Tree_First.f {E A:Type} (O:Ops E A) (k:Nat) (p1:Pool (TNode E A)) (rt0:TRef) (a1:Int) (fn2:A→A→Option Bool):Option (Int):=(Tree_Len.f O k p1 rt0).bind fun x1=>(Tree_first.f O k p1 rt0 (gmin (gmax a1 0) x1) O.zA fn2).bind fun x2=>some x2.1
def Tree_last.r {E A:Type} (O:Ops E A) (k:Nat):Nat→Pool (TNode E A)→TRef→Option (TRef×TRef×Pool (TNode E A))
  | 0, _, _ => none
  | n + 1, p1, a1 => (Tree_get.f O k p1 a1).bind fun x1 => bif (x1.right.gen == 0) then (some (x1.left, a1, p1)) else ((Tree_last.r O k n p1 x1.right).bind fun x2 => (Tree_link.f O k x2.2.2 x1.left a1 x2.1).bind fun x3 => some (x3.1, x2.2.1, x3.2))
def Tree_last.f {E A:Type} (O:Ops E A) (k:Nat) (p1:Pool (TNode E A)) (a1:TRef):Option (TRef×TRef×Pool (TNode E A)):=Tree_last.r O k k p1 a1
def Tree_merge.f {E A:Type} (O:Ops E A) (k:Nat) (p1:Pool (TNode E A)) (a1:TRef) (a2:TRef):Option (TRef×Pool (TNode E A)):=bif (a1.gen == 0) then (some (a2,p1)) else (bif (a2.gen == 0) then (some (a1,p1)) else ((Tree_last.f O k p1 a1).bind fun x1=>(Tree_link.f O k x1.2.2 x1.1 x1.2.1 a2).bind fun x2=>some (x2.1,x2.2)))
def Tree_drop.r {E A:Type} (O:Ops E A) (k:Nat):Nat→Pool (TNode E A)→TRef→E→Option (TRef×E×Bool×Pool (TNode E A))
  | 0, _, _, _ => none
  | n + 1, p1, a1, a2 => bif (a1.gen == 0) then (some (a1, O.zE, false, p1)) else ((Tree_get.f O k p1 a1).bind fun x1 => (O.cmp k a2 x1.e).bind fun x2 => bif (decide (x2 < 0)) then ((Tree_drop.r O k n p1 x1.left a2).bind fun x3 => bif (!x3.2.2.1) then (some (a1, x3.2.1, false, x3.2.2.2)) else ((Tree_link.f O k x3.2.2.2 x3.1 a1 x1.right).bind fun x4 => some (x4.1, x3.2.1, true, x4.2))) else (bif (decide (x2 > 0)) then ((Tree_drop.r O k n p1 x1.right a2).bind fun x5 => bif (!x5.2.2.1) then (some (a1, x5.2.1, false, x5.2.2.2)) else ((Tree_link.f O k x5.2.2.2 x1.left a1 x5.1).bind fun x6 => some (x6.1, x5.2.1, true, x6.2))) else ((pDrop (zNode O) p1 a1.index a1.gen).bind fun x7 => (Tree_merge.f O k x7.2 x1.left x1.right).bind fun x8 => some (x8.1, x1.e, true, x8.2))))
def Tree_drop.f {E A:Type} (O:Ops E A) (k:Nat) (p1:Pool (TNode E A)) (a1:TRef) (a2:E):Option (TRef×E×Bool×Pool (TNode E A)):=Tree_drop.r O k k p1 a1 a2
def Tree_Drop.f {E A:Type} (O:Ops E A) (k:Nat) (p1:Pool (TNode E A)) (rt0:TRef) (a1:E):Option (E×Bool×TRef×Pool (TNode E A)):=(Tree_drop.f O k p1 rt0 a1).bind fun x1=>some (x1.2.1,x1.2.2.1,x1.1,x1.2.2.2)
def Tree_all.r {E A:Type} (O:Ops E A) (k:Nat):Nat→Pool (TNode E A)→TRef→List E→Option (List E)
  | 0, _, _, _ => none
  | n + 1, p1, a1, l2 => bif (a1.gen == 0) then (some l2) else ((Tree_get.f O k p1 a1).bind fun x1 => (Tree_all.r O k n p1 x1.left l2).bind fun x2 => bif decide (x2.length + ([x1.e] : List E).length < 4294967296) then ((Tree_all.r O k n p1 x1.right (x2 ++ ([x1.e] : List E))).bind fun x3 => some x3) else none)
def Tree_all.f {E A:Type} (O:Ops E A) (k:Nat) (p1:Pool (TNode E A)) (a1:TRef) (l2:List E):Option (List E):=Tree_all.r O k k p1 a1 l2
def Tree_All.f {E A:Type} (O:Ops E A) (k:Nat) (p1:Pool (TNode E A)) (rt0:TRef):Option (List E):=(Tree_all.f O k p1 rt0 ([]:List E)).bind fun x1=>some x1
def cmp_isNaN.f (k:Nat) (a0:Int):Option (Bool):=some (a0 != a0)
def cmp_Compare.f (k:Nat) (a0:Int) (a1:Int):Option (Int):=(cmp_isNaN.f k a0).bind fun x1=>(cmp_isNaN.f k a1).bind fun x2=>bif x1 then (bif x2 then (some 0) else (some (-1))) else (bif x2 then (some 1) else (bif (decide (a0<a1)) then (some (-1)) else (bif (decide (a0>a1)) then (some 1) else (some 0))))
def wave_Mark_Compare.f (k:Nat) (a0:TMark) (a1:TMark):Option (Int):=(cmp_Compare.f k a0.op.time a1.op.time).bind fun x1=>some x1
def cmp_Or.l0 (k:Nat) (l0:List Int):Nat→Int→Option (Sum (Int) (Unit))
  | 0, _ => none
  | n + 1, v1 => bif (decide (v1 < (l0.length : Int))) then ((atL l0 v1).bind fun x2 => bif (x2 != 0) then (some (Sum.inl x2)) else (cmp_Or.l0 k l0 n (w64 (v1 + 1)))) else (some (Sum.inr ()))
def cmp_Or.f (k:Nat) (l0:List Int):Option (Int):=(cmp_Or.l0 k l0 k 0).bind (Sum.elim (fun r=>some r) (fun w1=>some 0))
def item_Compare.f (k:Nat) (a0:TItem) (a1:TItem):Option (Int):=(cmp_Compare.f k a0.key a1.key).bind fun x1=>(cmp_Compare.f k a0.id a1.id).bind fun x2=>(cmp_Or.f k ([x1,x2]:List Int)).bind fun x3=>some x3
def shelf_Slot_Compare.f (k:Nat) (a0:TSlot) (a1:TSlot):Option (Int):=(item_Compare.f k a0.item a1.item).bind fun x1=>some x1
def tide_Tide_Plus.f (k:Nat) (a0:TTide) (a1:TTide):Option (TTide):=bif (a0.n == 0) then (some a1) else (bif (a1.n == 0) then (some a0) else (some (TTide.mk (w64 (a0.n+a1.n)) (w64 (a0.sum+a1.sum)) (gmin a0.low (w64 (a0.sum+a1.low))))))
def wave_Swell_taken.f (k:Nat) (a0:TSwell):Option (TTook):=bif (a0.deletes == a0.free) then (some zTTook) else (some (TTook.mk true a0.most))
def wave_better.f (k:Nat) (a0:Int) (a1:TTook) (a2:TTook):Option (TTook):=bif (!a1.found) then (some a2) else (bif a2.found then ((item_Compare.f k a2.item a1.item).bind fun x1=>bif (decide ((w64 (a0*x1))<0)) then (some a2) else (some a1)) else (some a1))
def wave_Swell_Plus.f (k:Nat) (a0:TSwell) (a1:TSwell):Option (TSwell):=(tide_Tide_Plus.f k a0.count a1.count).bind fun x1=>(tide_Tide_Plus.f k a0.weight a1.weight).bind fun x2=>(wave_Swell_taken.f k a0).bind fun x3=>(wave_Swell_taken.f k a1).bind fun x4=>(wave_better.f k (-1) x3 x4).bind fun x5=>(wave_better.f k (-1) a0.gone a1.gone).bind fun x6=>(wave_better.f k 1 a0.least a1.least).bind fun x7=>some (TSwell.mk x1 x2 (w64 (a0.deletes+a1.deletes)) (w64 (a0.free+a1.free)) x5.item x6 x7)
def tide_Of.l0 (k:Nat) (l0:List Int):Nat→(TTide×Int)→Option (TTide)
  | 0, _ => none
  | n + 1, (v1, v2) => bif (decide (v2 < (l0.length : Int))) then ((atL l0 v2).bind fun x2 => (tide_Tide_Plus.f k v1 (TTide.mk 1 x2 x2)).bind fun x3 => tide_Of.l0 k l0 n (x3, (w64 (v2 + 1)))) else (some v1)
def tide_Of.f (k:Nat) (l0:List Int):Option (TTide):=(tide_Of.l0 k l0 k (zTTide,0)).bind fun x1=>some x1
def wave_Mark_Sum.f (k:Nat) (a0:TMark):Option (TSwell):=((bif a0.op.insert then (some a0.here) else (some false)).bind fun x2=>bif x2 then ((tide_Of.f k ([1]:List Int)).bind fun x3=>(tide_Of.f k ([0]:List Int)).bind fun x4=>some (Sum.inl (TSwell.mk x3 x4 0 0 zTItem zTTook (TTook.mk true a0.op.item)))) else (bif a0.op.insert then ((tide_Of.f k ([1]:List Int)).bind fun x5=>(tide_Of.f k ([1]:List Int)).bind fun x6=>some (Sum.inl (TSwell.mk x5 x6 0 0 zTItem (TTook.mk true a0.op.item) zTTook))) else (some (Sum.inr ())))).bind (Sum.elim (fun r=>some r) (fun w1=>(tide_Of.f k ([(-1)]:List Int)).bind fun x7=>(tide_Of.f k ([(-1)]:List Int)).bind fun x8=>bif a0.took.found then (some (TSwell.mk x7 x8 1 0 a0.took.item zTTook zTTook)) else (some (TSwell.mk x7 x8 1 1 zTItem zTTook zTTook))))
def shelf_Slot_Sum.f (k:Nat) (a0:TSlot):Option (TSize):=some 1
def shelf_Size_Plus.f (k:Nat) (a0:TSize) (a1:TSize):Option (TSize):=some (w64 (a0+a1))
abbrev opsM:Ops TMark TSwell:=⟨wave_Mark_Compare.f,wave_Mark_Sum.f,wave_Swell_Plus.f,zTMark,zTSwell⟩
abbrev zNodeM:TNode TMark TSwell:=zNode opsM
def wave_New.f (k:Nat) (a0:Int):Option (TRef×Pool (TNode TMark TSwell)):=(Tree_New.f opsM k a0).bind fun x1=>some (x1.1,x1.2)
abbrev opsS:Ops TSlot TSize:=⟨shelf_Slot_Compare.f,shelf_Slot_Sum.f,shelf_Size_Plus.f,zTSlot,zTSize⟩
abbrev zNodeS:TNode TSlot TSize:=zNode opsS
def shelf_New.f (k:Nat) (a0:Int):Option (TRef×Pool (TNode TSlot TSize)):=(Tree_New.f opsS k a0).bind fun x1=>some (x1.1,x1.2)
def partial_New.f (k:Nat) (a0:Int):Option (TQueue):=(wave_New.f k (gmin (gmax a0 0) 65536)).bind fun x1=>(shelf_New.f k (gmin (gmax a0 0) 65536)).bind fun x2=>(shelf_New.f k (gmin (gmax a0 0) 65536)).bind fun x3=>(shelf_New.f k (gmin (gmax a0 0) 65536)).bind fun x4=>some (TQueue.mk (gmin (gmax a0 0) 65536) (TS.mk x1.2 x1.1) (TS.mk x2.2 x2.1) (TS.mk x3.2 x3.1) (TS.mk x4.2 x4.1) 0)
def wave_Key.f (k:Nat) (a0:Int):Option (TMark):=some (TMark.mk (TOp.mk a0 false zTItem) false zTTook)
def partial_Queue_may.f (k:Nat) (q0:TQueue) (a1:Int):Option (Int):=(Tree_Len.f opsM k q0.marks.p q0.marks.r).bind fun x1=>bif (x1 == q0.capacity) then (some 10) else ((wave_Key.f k a1).bind fun x2=>(Tree_Find.f opsM k q0.marks.p q0.marks.r x2).bind fun x3=>bif x3.2 then (some 11) else (some 0))
def shelf_Of.f (k:Nat) (a0:TItem):Option (TSlot):=some (TSlot.mk a0 false 0)
def bridge_clamp.f (k:Nat) (p1:Pool (TNode TMark TSwell)) (rt0:TRef) (a1:Int):Option (Int):=(Tree_Len.f opsM k p1 rt0).bind fun x1=>some (gmin (gmax a1 0) x1)
def bridge_low.f (k:Nat) (a0:Int):Option (Int):=some a0
def bridge_low_1.f (k:Nat) (a0:TSwell) (a1:TSwell) (c0:Int):Option (Bool):=bif (decide (a1.weight.n>0)) then (some (decide ((w64 ((w64 (c0+a0.weight.sum))+a1.weight.low))≤0))) else (some false)
def bridge_Prior.f (k:Nat) (p1:Pool (TNode TMark TSwell)) (rt0:TRef) (a1:Int) (a2:Int):Option (Int):=(bridge_clamp.f k p1 rt0 a1).bind fun x1=>(bridge_low.f k a2).bind fun x2=>(Tree_Last.f opsM k p1 rt0 x1 (fun z0 z1=>bridge_low_1.f k z0 z1 x2)).bind fun x3=>bif (decide (x3≥0)) then (some (w64 (x3+1))) else (bif (decide (a2≤0)) then (some 0) else (some (-1)))
def bridge_Best.f (k:Nat) (p1:Pool (TNode TMark TSwell)) (rt0:TRef) (a1:Int):Option (TTook):=(bridge_clamp.f k p1 rt0 a1).bind fun x1=>(Tree_Len.f opsM k p1 rt0).bind fun x2=>(Tree_Between.f opsM k p1 rt0 x1 x2).bind fun x3=>some x3.gone
def partial_Queue_turn.f (k:Nat) (q0:TQueue) (a1:TItem) (a2:Bool):Option (TQueue):=(shelf_Of.f k a1).bind fun x1=>(Tree_Find.f opsS k q0.times.p q0.times.r x1).bind fun x2=>(wave_Key.f k x2.1.time).bind fun x3=>(Tree_Find.f opsM k q0.marks.p q0.marks.r x3).bind fun x4=>(Tree_Put.f opsM k q0.marks.p q0.marks.r (TMark.mk x4.1.op a2 x4.1.took)).bind fun x5=>bif a2 then ((shelf_Of.f k a1).bind fun x6=>(Tree_Drop.f opsS k q0.gone.p q0.gone.r x6).bind fun x7=>(shelf_Of.f k a1).bind fun x8=>(Tree_Put.f opsS k q0.present.p q0.present.r x8).bind fun x9=>some (TQueue.mk q0.capacity (TS.mk x5.2.2 x5.2.1) (TS.mk x9.2.2 x9.2.1) (TS.mk x7.2.2.2 x7.2.2.1) q0.times q0.excess)) else ((shelf_Of.f k a1).bind fun x10=>(Tree_Drop.f opsS k q0.present.p q0.present.r x10).bind fun x11=>(shelf_Of.f k a1).bind fun x12=>(Tree_Put.f opsS k q0.gone.p q0.gone.r x12).bind fun x13=>some (TQueue.mk q0.capacity (TS.mk x5.2.2 x5.2.1) (TS.mk x11.2.2.2 x11.2.2.1) (TS.mk x13.2.2 x13.2.1) q0.times q0.excess))
def partial_Queue_Insert.f (k:Nat) (q0:TQueue) (a1:Int) (a2:TItem):Option (TChange×Int×TQueue):=(partial_Queue_may.f k q0 a1).bind fun x1=>bif (x1 != 0) then (some ((TChange.mk ([]:List TItem) ([]:List TItem)),x1,q0)) else ((shelf_Of.f k a2).bind fun x2=>(Tree_Find.f opsS k q0.times.p q0.times.r x2).bind fun x3=>bif x3.2 then (some ((TChange.mk ([]:List TItem) ([]:List TItem)),2,q0)) else ((wave_Key.f k a1).bind fun x4=>(Tree_Rank.f opsM k q0.marks.p q0.marks.r x4).bind fun x5=>(bridge_Prior.f k q0.marks.p q0.marks.r x5 q0.excess).bind fun x6=>(Tree_Put.f opsS k q0.times.p q0.times.r (TSlot.mk a2 true a1)).bind fun x7=>(Tree_Put.f opsM k q0.marks.p q0.marks.r (TMark.mk (TOp.mk a1 true a2) false zTTook)).bind fun x8=>(shelf_Of.f k a2).bind fun x9=>(Tree_Put.f opsS k q0.gone.p q0.gone.r x9).bind fun x10=>bif (decide (x6<0)) then (some ((TChange.mk ([]:List TItem) ([]:List TItem)),0,(TQueue.mk q0.capacity (TS.mk x8.2.2 x8.2.1) q0.present (TS.mk x10.2.2 x10.2.1) (TS.mk x7.2.2 x7.2.1) (w64 (q0.excess - 1))))) else ((bridge_Best.f k x8.2.2 x8.2.1 x6).bind fun x11=>(partial_Queue_turn.f k (TQueue.mk q0.capacity (TS.mk x8.2.2 x8.2.1) q0.present (TS.mk x10.2.2 x10.2.1) (TS.mk x7.2.2 x7.2.1) q0.excess) x11.item true).bind fun x12=>some ((TChange.mk ([x11.item]:List TItem) ([]:List TItem)),0,x12))))
def bridge_Height.f (k:Nat) (p1:Pool (TNode TMark TSwell)) (rt0:TRef) (a1:Int) (a2:Int):Option (Int):=(Tree_Between.f opsM k p1 rt0 0 a1).bind fun x1=>some (w64 (a2+x1.weight.sum))
def bridge_Next.f (k:Nat) (p1:Pool (TNode TMark TSwell)) (rt0:TRef) (a1:Int) (a2:Int):Option (Int):=(bridge_clamp.f k p1 rt0 a1).bind fun x1=>(bridge_Height.f k p1 rt0 x1 a2).bind fun x2=>bif (decide (x2≤0)) then (some x1) else ((bridge_low.f k a2).bind fun x3=>(Tree_First.f opsM k p1 rt0 x1 (fun z0 z1=>bridge_low_1.f k z0 z1 x3)).bind fun x4=>bif (decide (x4≥0)) then (some (w64 (x4+1))) else (some (-1)))
def bridge_Least.f (k:Nat) (p1:Pool (TNode TMark TSwell)) (rt0:TRef) (a1:Int):Option (TTook):=(bridge_clamp.f k p1 rt0 a1).bind fun x1=>(Tree_Between.f opsM k p1 rt0 0 x1).bind fun x2=>some x2.least
def partial_Queue_leave.f (k:Nat) (q0:TQueue) (a1:Int):Option (TChange×TQueue):=(bridge_Next.f k q0.marks.p q0.marks.r a1 q0.excess).bind fun x1=>(bridge_Least.f k q0.marks.p q0.marks.r x1).bind fun x2=>bif (!x2.found) then (some ((TChange.mk ([]:List TItem) ([]:List TItem)),(TQueue.mk q0.capacity q0.marks q0.present q0.gone q0.times (w64 (q0.excess+1))))) else ((partial_Queue_turn.f k q0 x2.item false).bind fun x3=>some ((TChange.mk ([]:List TItem) ([x2.item]:List TItem)),x3))
def partial_Queue_Delete.f (k:Nat) (q0:TQueue) (a1:Int):Option (TChange×Int×TQueue):=(partial_Queue_may.f k q0 a1).bind fun x1=>bif (x1 != 0) then (some ((TChange.mk ([]:List TItem) ([]:List TItem)),x1,q0)) else ((wave_Key.f k a1).bind fun x2=>(Tree_Rank.f opsM k q0.marks.p q0.marks.r x2).bind fun x3=>(partial_Queue_leave.f k q0 x3).bind fun x4=>(wave_Key.f k a1).bind fun x5=>(Tree_Put.f opsM k x4.2.marks.p x4.2.marks.r x5).bind fun x6=>some (x4.1,0,(TQueue.mk x4.2.capacity (TS.mk x6.2.2 x6.2.1) x4.2.present x4.2.gone x4.2.times x4.2.excess)))
def partial_Queue_enter.f (k:Nat) (q0:TQueue) (a1:Int):Option (TChange×TQueue):=(bridge_Prior.f k q0.marks.p q0.marks.r a1 q0.excess).bind fun x1=>bif (decide (x1<0)) then (some ((TChange.mk ([]:List TItem) ([]:List TItem)),(TQueue.mk q0.capacity q0.marks q0.present q0.gone q0.times (w64 (q0.excess - 1))))) else ((bridge_Best.f k q0.marks.p q0.marks.r x1).bind fun x2=>bif (!x2.found) then (some ((TChange.mk ([]:List TItem) ([]:List TItem)),q0)) else ((partial_Queue_turn.f k q0 x2.item true).bind fun x3=>some ((TChange.mk ([x2.item]:List TItem) ([]:List TItem)),x3)))
def partial_Queue_Revoke.f (k:Nat) (q0:TQueue) (a1:Int):Option (TChange×Int×TQueue):=(wave_Key.f k a1).bind fun x1=>(Tree_Find.f opsM k q0.marks.p q0.marks.r x1).bind fun x2=>bif (!x2.2) then (some ((TChange.mk ([]:List TItem) ([]:List TItem)),14,q0)) else ((wave_Key.f k a1).bind fun x3=>(Tree_Rank.f opsM k q0.marks.p q0.marks.r x3).bind fun x4=>bif (!x2.1.op.insert) then ((partial_Queue_enter.f k q0 x4).bind fun x5=>(wave_Key.f k a1).bind fun x6=>(Tree_Drop.f opsM k x5.2.marks.p x5.2.marks.r x6).bind fun x7=>some (x5.1,0,(TQueue.mk x5.2.capacity (TS.mk x7.2.2.2 x7.2.2.1) x5.2.present x5.2.gone x5.2.times x5.2.excess))) else ((bif (!x2.1.here) then ((partial_Queue_leave.f k q0 (w64 (x4+1))).bind fun x9=>some (x9.2,x9.1.in_,x9.1.out)) else (some (q0,([]:List TItem),([x2.1.op.item]:List TItem)))).bind fun x8=>(wave_Key.f k a1).bind fun x10=>(Tree_Drop.f opsM k x8.1.marks.p x8.1.marks.r x10).bind fun x11=>(shelf_Of.f k x2.1.op.item).bind fun x12=>(Tree_Drop.f opsS k x8.1.present.p x8.1.present.r x12).bind fun x13=>(shelf_Of.f k x2.1.op.item).bind fun x14=>(Tree_Drop.f opsS k x8.1.gone.p x8.1.gone.r x14).bind fun x15=>(shelf_Of.f k x2.1.op.item).bind fun x16=>(Tree_Drop.f opsS k x8.1.times.p x8.1.times.r x16).bind fun x17=>some ((TChange.mk x8.2.1 x8.2.2),0,(TQueue.mk x8.1.capacity (TS.mk x11.2.2.2 x11.2.2.1) (TS.mk x13.2.2.2 x13.2.2.1) (TS.mk x15.2.2.2 x15.2.2.1) (TS.mk x17.2.2.2 x17.2.2.1) x8.1.excess))))
def partial_Queue_Ops.l0 (k:Nat) (x2:List TMark):Nat→(List TOp×Int)→Option (List TOp)
  | 0, _ => none
  | n + 1, (v1, v2) => bif (decide (v2 < (x2.length : Int))) then ((atL x2 v2).bind fun x3 => bif decide (v1.length + ([x3.op] : List TOp).length < 4294967296) then (partial_Queue_Ops.l0 k x2 n ((v1 ++ ([x3.op] : List TOp)), (w64 (v2 + 1)))) else none) else (some v1)
def partial_Queue_Ops.f (k:Nat) (q0:TQueue):Option (List TOp):=((Tree_All.f opsM k q0.marks.p q0.marks.r).bind fun x2=>partial_Queue_Ops.l0 k x2 k (([]:List TOp),0)).bind fun x1=>some x1
def partial_Queue_Len.f (k:Nat) (q0:TQueue):Option (Int):=(Tree_Len.f opsM k q0.marks.p q0.marks.r).bind fun x1=>some x1
def partial_Queue_all.f (k:Nat) (q0:TQueue):Option (TSwell):=(Tree_Len.f opsM k q0.marks.p q0.marks.r).bind fun x1=>(Tree_Between.f opsM k q0.marks.p q0.marks.r 0 x1).bind fun x2=>some x2
def partial_Queue_Deletes.f (k:Nat) (q0:TQueue):Option (Int):=(partial_Queue_all.f k q0).bind fun x1=>some x1.deletes
def partial_Queue_Present.f (k:Nat) (q0:TQueue):Option (Unit):=some ()
def partial_Queue_Gone.f (k:Nat) (q0:TQueue):Option (Unit):=some ()
end Go.Proofs.YtgjbibabegabnaaGreat
namespace Go.Proofs.YtgjbibabegabnaaGreat
theorem R {α:Sort _} {a:α}:a=a:=rfl
open Go Go.Proofs.YtgjbibabegabnaaGreat.Sx
theorem me82_201 (v : Value) (w : World) : (method (Tryz.prog.types.size + Made.depth) 82 v "Compare").run Tryz.prog w = .ok (201, v) w := meth_of (by kernel_rfl) v w
theorem me82_202 (v : Value) (w : World) : (method (Tryz.prog.types.size + Made.depth) 82 v "Sum").run Tryz.prog w = .ok (202, v) w := meth_of (by kernel_rfl) v w
theorem me85_203 (v : Value) (w : World) : (method (Tryz.prog.types.size + Made.depth) 85 v "Plus").run Tryz.prog w = .ok (203, v) w := meth_of (by kernel_rfl) v w
theorem me101_206 (v : Value) (w : World) : (method (Tryz.prog.types.size + Made.depth) 101 v "Compare").run Tryz.prog w = .ok (206, v) w := meth_of (by kernel_rfl) v w
theorem me101_207 (v : Value) (w : World) : (method (Tryz.prog.types.size + Made.depth) 101 v "Sum").run Tryz.prog w = .ok (207, v) w := meth_of (by kernel_rfl) v w
theorem me105_211 (v : Value) (w : World) : (method (Tryz.prog.types.size + Made.depth) 105 v "Plus").run Tryz.prog w = .ok (211, v) w := meth_of (by kernel_rfl) v w
abbrev cmp_isNaN_st (a0:Int) (r:Bool):Prop:=SCon Tryz.prog 101 [.a (.c (.v (.int .i64 a0)))] [] (.a (.c (.v (.bool r)))) [] []
theorem cmp_isNaN_con0 {k:Nat}  {a0:Int} {r:Bool}  (H0:cmp_isNaN.f k a0=some r):cmp_isNaN_st a0 r:=by
 rw [cmp_isNaN.f] at H0
 refine spec_of [(0,_)] [] 6 Tryz.func101 R Tryz.ntmps101 R R R R (fun β W F=>?_)
 exact G.seq<|G.rg<|K.as R R<|K.nil<|At.nr<|K.mv R R<|K.mv R R<|K.bin (V:=.bool (a0 != a0)) g0 R R (fun _=>R) R<|K.as R R<|K.nil<|At.next<|G.ret<|At.dr Y [2] R R (by cases H0;rfl) (by cases H0;rfl) R R R
theorem cmp_isNaN_con {k:Nat}  {a0:Int} {r:Bool}  (H0:cmp_isNaN.f k a0=some r):cmp_isNaN_st a0 r :=
 SCon.ren (rn []) (cmp_isNaN_con0 (k:=k)   H0) trivial trivial (by simp) (by simp)
abbrev cmp_Compare_st (a0:Int) (a1:Int) (r:Int):Prop:=SCon Tryz.prog 72 [.a (.c (.v (.int .i64 a0))),.a (.c (.v (.int .i64 a1)))] [] (.a (.c (.v (.int .i64 r)))) [] []
theorem cmp_Compare_con0 {k:Nat}  {a0:Int} {a1:Int} {r:Int}  (H0:cmp_Compare.f k a0 a1=some r):cmp_Compare_st a0 a1 r:=by
 rw [cmp_Compare.f] at H0
 refine spec_of [(0,_),(1,_)] [] 20 Tryz.func72 R Tryz.ntmps72 R R R R (fun β W F=>?_)
 refine G.seq<|G.rg<|K.as R R<|K.nil<|At.ns ?_
 obtain ⟨x1,hx1,H0⟩:=bnd H0
 refine G.rg<|K.mv R R<|K.cR (cf 101 R) (cmp_isNaN_con hx1) g0 R R R R<|K.as R R<|K.nil<|At.ns ?_
 obtain ⟨x2,hx2,H0⟩:=bnd H0
 refine G.rg<|K.mv R R<|K.cR (cf 101 R) (cmp_isNaN_con hx2) g0 R R R R<|K.as R R<|K.nil<|At.ns<|G.seq<|G.rg<|K.mv R R<|K.nil<|At.next<|G.cond R (fun h1=>?_) (fun h1=>?_)
 ·
  replace H0:=bif_t H0 h1
  refine G.seq<|G.seq<|G.rg<|K.mv R R<|K.nil<|At.next<|G.cond R (fun h2=>?_) (fun h2=>?_)
  ·
   replace H0:=bif_t H0 h2
   exact G.seq<|G.rg<|K.as R R<|K.nil<|At.next<|G.ret<|At.over_ret<|At.over_ret<|At.dr Y [4] R R (by cases H0;rfl) (by cases H0;rfl) R R R
  ·
   replace H0:=bif_f H0 h2
   exact G.skip<|At.nr<|K.as R R<|K.nil<|At.next<|G.ret<|At.over_ret<|At.dr Y [4] R R (by cases H0;rfl) (by cases H0;rfl) R R R
 ·
  replace H0:=bif_f H0 h1
  refine G.skip<|At.ns<|G.seq<|G.rg<|K.mv R R<|K.nil<|At.next<|G.cond R (fun h3=>?_) (fun h3=>?_)
  ·
   replace H0:=bif_t H0 h3
   exact G.seq<|G.rg<|K.as R R<|K.nil<|At.next<|G.ret<|At.over_ret<|At.dr Y [4] R R (by cases H0;rfl) (by cases H0;rfl) R R R
  ·
   replace H0:=bif_f H0 h3
   refine G.skip<|At.ns<|G.seq<|G.rg<|K.mv R R<|K.mv R R<|K.bin (V:=.bool (decide (a0<a1))) g0 R R (fun _=>R) R<|K.nil<|At.next<|G.cond R (fun h4=>?_) (fun h4=>?_)
   ·
    replace H0:=bif_t H0 h4
    exact G.seq<|G.rg<|K.as R R<|K.nil<|At.next<|G.ret<|At.over_ret<|At.dr Y [4] R R (by cases H0;rfl) (by cases H0;rfl) R R R
   ·
    replace H0:=bif_f H0 h4
    refine G.skip<|At.ns<|G.seq<|G.rg<|K.mv R R<|K.mv R R<|K.bin (V:=.bool (decide (a0>a1))) g0 R R (fun _=>R) R<|K.nil<|At.next<|G.cond R (fun h5=>?_) (fun h5=>?_)
    ·
     replace H0:=bif_t H0 h5
     exact G.seq<|G.rg<|K.as R R<|K.nil<|At.next<|G.ret<|At.over_ret<|At.dr Y [4] R R (by cases H0;rfl) (by cases H0;rfl) R R R
    ·
     replace H0:=bif_f H0 h5
     exact G.skip<|At.nr<|K.as R R<|K.nil<|At.next<|G.ret<|At.dr Y [4] R R (by cases H0;rfl) (by cases H0;rfl) R R R
theorem cmp_Compare_con {k:Nat}  {a0:Int} {a1:Int} {r:Int}  (H0:cmp_Compare.f k a0 a1=some r):cmp_Compare_st a0 a1 r :=
 SCon.ren (rn []) (cmp_Compare_con0 (k:=k)   H0) trivial trivial (by simp) (by simp)
abbrev wave_Mark_Compare_st (a0:TMark) (a1:TMark) (r:Int):Prop:=SCon Tryz.prog 206 [.a (.agg ((eTMark a0).map .v)),.a (.agg ((eTMark a1).map .v))] [] (.a (.c (.v (.int .i64 r)))) [] []
theorem wave_Mark_Compare_con0 {k:Nat}  {a0:TMark} {a1:TMark} {r:Int}  (H0:wave_Mark_Compare.f k a0 a1=some r):wave_Mark_Compare_st a0 a1 r:=by
 rw [wave_Mark_Compare.f] at H0
 refine spec_of [(0,_),(1,_)] [] 12 Tryz.func206 R Tryz.ntmps206 R R R R (fun β W F=>?_)
 refine G.seq<|G.rg<|K.box Y 100 _ g0 R R R R R R<|K.box Y 101 _ g0 R R R R R R<|K.as R R<|K.nil<|At.ns ?_
 obtain ⟨x1,hx1,H0⟩:=bnd H0
 exact G.rg<|K.fieldAddr Y g0 R t101 R R<|K.fieldAddr Y g0 R t45 R R<|K.load1 Y g0 R R t3 R R<|K.fieldAddr Y g0 R t101 R R<|K.fieldAddr Y g0 R t45 R R<|K.load1 Y g0 R R t3 R R<|K.cR (cf 72 R) (cmp_Compare_con hx1) g0 R R R R<|K.as R R<|K.nil<|At.next<|G.ret<|At.dr Y [4] R R (by cases H0;rfl) (by cases H0;rfl) R R R
theorem wave_Mark_Compare_con {k:Nat}  {a0:TMark} {a1:TMark} {r:Int}  (H0:wave_Mark_Compare.f k a0 a1=some r):wave_Mark_Compare_st a0 a1 r :=
 SCon.ren (rn []) (wave_Mark_Compare_con0 (k:=k)   H0) trivial trivial (by simp) (by simp)
abbrev cmp_Or_st (S:Foot) (W0:World) (s0:Value) (r:Int):Prop:=SCon Tryz.prog 71 [SV.raw s0] [(0,rd S W0)] (.a (.c (.v (.int .i64 r)))) [(0,rd S W0)] []
theorem cmp_Or_con0 {k:Nat}  {S:Foot} {W0:World} {s0:Value} {l0:List Int} {r:Int} (hL0:LArg S W0 s0 intE 1 l0) (H0:cmp_Or.f k l0=some r):cmp_Or_st S W0 s0 r:=by
 rw [cmp_Or.f] at H0
 obtain ⟨b0,o0,hI0⟩:=hL0
 refine spec_of [(0,_)] [(0,_)] 18 Tryz.func71 R Tryz.ntmps71 R R R R (fun β W F=>?_)
 refine G.seq<|G.rg<|K.as R R<|K.nil<|At.nr<|K.as R R<|K.nil<|At.next ?_
 obtain ⟨x1,H1,H0⟩:=bnd H0
 refine G.sJ (σ:={ v:Unit // x1=Sum.inr v }) (fun q=>[(3,.a (.c (.v (.int .i64 0))))]) (fun q=>[(0,rd S W0)]) ?_ ?_
 ·
  refine G.seq<|G.rg<|K.mv R R<|K.lenL (rV 0 S W0 s0 b0 o0 intE 1 l0) (hI0.is 0) g0 R R Tryz.underlying161 R<|K.mv R R<|K.nil<|At.next<|G.block<|G.lp (σ:={ q:Nat×(Int) // cmp_Or.l0 k l0 q.1 q.2=some x1 }) (fun q=>[(3,.a (.c (.v (.int .i64 0)))),(6,SV.raw s0),(7,.a (.c (.v (.int .i64 (l0.length:Int))))),(8,.a (.c (.v (.int .i64 q.1.2))))]) (fun q=>[(0,rd S W0)]) (fun q=>q.1.1) ⟨(k,0),H1⟩ ?_ ?_
  · exact At.into [] [_] R ⟨R,R,R,R,trivial⟩ ⟨R,(fun _=>R),trivial⟩ R
  ·
   rintro ⟨⟨n0,v1⟩,H1⟩
   show G _ _ [(3,.a (.c (.v (.int .i64 0)))),(6,SV.raw s0),(7,.a (.c (.v (.int .i64 (l0.length:Int))))),(8,.a (.c (.v (.int .i64 v1))))] [(0,some (rd S W0))] _ _
   cases n0 with
   | zero => exact absurd H1 (by simp [cmp_Or.l0])
   | succ n0 =>
    have HL0:=H1
    rw [cmp_Or.l0] at H1
    refine G.seq<|G.rg<|K.bin (V:=.bool (decide (v1<(l0.length:Int)))) g0 R R (fun _=>R) R<|K.nil<|At.ns<|G.cond R (fun h1=>?_) (fun h1=>?_)
    ·
     replace H1:=bif_t H1 h1
     refine G.skip<|At.ns<|G.block<|G.seq ?_
     obtain ⟨x2,hx2,H1⟩:=bnd H1
     refine G.rg<|K.idxL (rV 0 S W0 s0 b0 o0 intE 1 l0) ((v1).toNat) (hI0.is 0) (atL_get hx2) (atL_nn hx2) g0 R R R Tryz.underlying161 el161.size_run R<|K.load1L Y (rV 0 S W0 s0 b0 o0 intE 1 l0) ((v1).toNat) 0 (hI0.is 0) (atL_get hx2) g0 R R t3 R R<|K.as R R<|K.nil<|At.nr<|K.mv R R<|K.mv R R<|K.bin (V:=.bool (x2 != 0)) g0 R R (fun _=>R) R<|K.nil<|At.next<|G.cond R (fun h2=>?_) (fun h2=>?_)
     ·
      replace H1:=bif_t H1 h2
      refine G.seq<|G.rg<|K.mv R R<|K.as R R<|K.nil<|At.next<|G.ret<|At.block_ret<|At.over_ret<|At.over_ret<|At.block_ret<|At.over_ret ?_
      cases H1
      replace H0:=sum_l H0
      exact At.dr Y [2] R R (by cases H0;rfl) (by cases H0;rfl) R R R
     ·
      replace H1:=bif_f H1 h2
      exact G.skip<|At.block_normal<|At.next<|G.rg<|K.bin (V:=.int .i64 (w64 (v1+1))) g0 R R (fun _=>R) R<|K.mv R R<|K.nil<|At.ag ⟨(n0,(w64 (v1+1))),H1⟩ [] [_] (Nat.lt_succ_self _) R ⟨R,R,R,R,trivial⟩ ⟨R,(fun _=>R),trivial⟩ R
    ·
     replace H1:=bif_f H1 h1
     exact G.exit<|At.over_exit<|At.over_exit<|At.block_hit<|At.jd ⟨(),oi H1⟩ [] [_] R ⟨R,trivial⟩ ⟨R,(fun _=>R),trivial⟩ R
 ·
  rintro ⟨w1,rfl⟩
  replace H0:=sum_r H0
  show G _ _ [(3,.a (.c (.v (.int .i64 0))))] [(0,some (rd S W0))] _ _
  exact G.seq<|G.rg<|K.mv R R<|K.as R R<|K.nil<|At.next<|G.ret<|At.dr Y [2] R R (by cases H0;rfl) (by cases H0;rfl) R R R
theorem cmp_Or_con {k:Nat}  {S:Foot} {W0:World} {s0:Value} {l0:List Int} {r:Int} (hL0:LArg S W0 s0 intE 1 l0) (H0:cmp_Or.f k l0=some r):cmp_Or_st S W0 s0 r :=
 SCon.ren (rn []) (cmp_Or_con0 (k:=k)  hL0 H0) ⟨(fun _=>R),trivial⟩ ⟨(fun _=>R),trivial⟩ (by simp) (by simp)
abbrev item_Compare_st (a0:TItem) (a1:TItem) (r:Int):Prop:=SCon Tryz.prog 46 [.a (.agg ((eTItem a0).map .v)),.a (.agg ((eTItem a1).map .v))] [] (.a (.c (.v (.int .i64 r)))) [] []
theorem item_Compare_con0 {k:Nat}  {a0:TItem} {a1:TItem} {r:Int}  (H0:item_Compare.f k a0 a1=some r):item_Compare_st a0 a1 r:=by
 rw [item_Compare.f] at H0
 refine spec_of [(0,_),(1,_)] [] 17 Tryz.func46 R Tryz.ntmps46 R R R R (fun β W F=>?_)
 refine G.seq<|G.rg<|K.box Y 100 _ g0 R R R R R R<|K.box Y 101 _ g0 R R R R R R<|K.as R R<|K.nil<|At.ns ?_
 obtain ⟨x1,hx1,H0⟩:=bnd H0
 obtain ⟨x2,hx2,H0⟩:=bnd H0
 obtain ⟨x3,hx3,H0⟩:=bnd H0
 exact G.rd mixed<|K.fieldAddr Y g0 R t28 R R<|K.load1 Y g0 R R t3 R R<|K.fieldAddr Y g0 R t28 R R<|K.load1 Y g0 R R t3 R R<|K.cR (cf 72 R) (cmp_Compare_con hx1) g0 R R R R<|K.fieldAddr Y g0 R t28 R R<|K.load1 Y g0 R R t3 R R<|K.fieldAddr Y g0 R t28 R R<|K.load1 Y g0 R R t3 R R<|K.cR (cf 72 R) (cmp_Compare_con hx2) g0 R R R R<|K.buildL Y 102 ([x1,x2]:List Int) [(0,_),(1,_)] [((.tmp 9),_),((.tmp 14),_)] intE_len g0 (AllE.spec ⟨R,R,trivial⟩) R R Tryz.underlying161 t3 R R R R R R R R<|K.cV (cf 71 R) [102] (fun β w S2 h=>cmp_Or_con (la 0 R intE_len R h) hx3) g0 (fun _=>R) R R R<|K.as R R<|K.nil<|And.intro (by kernel_rfl)<|At.next<|G.ret<|At.dr Y [4] R R (by cases H0;rfl) (by cases H0;rfl) R R R
theorem item_Compare_con {k:Nat}  {a0:TItem} {a1:TItem} {r:Int}  (H0:item_Compare.f k a0 a1=some r):item_Compare_st a0 a1 r :=
 SCon.ren (rn []) (item_Compare_con0 (k:=k)   H0) trivial trivial (by simp) (by simp)
abbrev shelf_Slot_Compare_st (a0:TSlot) (a1:TSlot) (r:Int):Prop:=SCon Tryz.prog 201 [.a (.agg ((eTSlot a0).map .v)),.a (.agg ((eTSlot a1).map .v))] [] (.a (.c (.v (.int .i64 r)))) [] []
theorem shelf_Slot_Compare_con0 {k:Nat}  {a0:TSlot} {a1:TSlot} {r:Int}  (H0:shelf_Slot_Compare.f k a0 a1=some r):shelf_Slot_Compare_st a0 a1 r:=by
 rw [shelf_Slot_Compare.f] at H0
 refine spec_of [(0,_),(1,_)] [] 10 Tryz.func201 R Tryz.ntmps201 R R R R (fun β W F=>?_)
 refine G.seq<|G.rg<|K.box Y 100 _ g0 R R R R R R<|K.box Y 101 _ g0 R R R R R R<|K.as R R<|K.nil<|At.ns ?_
 obtain ⟨x1,hx1,H0⟩:=bnd H0
 exact G.rg<|K.fieldAddr Y g0 R t82 R R<|K.loadS Y _ g0 R R t28 R R R<|K.fieldAddr Y g0 R t82 R R<|K.loadS Y _ g0 R R t28 R R R<|K.cR (cf 46 R) (item_Compare_con hx1) g0 R R R R<|K.as R R<|K.nil<|At.next<|G.ret<|At.dr Y [4] R R (by cases H0;rfl) (by cases H0;rfl) R R R
theorem shelf_Slot_Compare_con {k:Nat}  {a0:TSlot} {a1:TSlot} {r:Int}  (H0:shelf_Slot_Compare.f k a0 a1=some r):shelf_Slot_Compare_st a0 a1 r :=
 SCon.ren (rn []) (shelf_Slot_Compare_con0 (k:=k)   H0) trivial trivial (by simp) (by simp)
abbrev tide_Tide_Plus_st (a0:TTide) (a1:TTide) (r:TTide):Prop:=SCon Tryz.prog 209 [.a (.agg ((eTTide a0).map .v)),.a (.agg ((eTTide a1).map .v))] [] (.a (.agg ((eTTide r).map .v))) [] []
theorem tide_Tide_Plus_con0 {k:Nat}  {a0:TTide} {a1:TTide} {r:TTide}  (H0:tide_Tide_Plus.f k a0 a1=some r):tide_Tide_Plus_st a0 a1 r:=by
 rw [tide_Tide_Plus.f] at H0
 refine spec_of [(0,_),(1,_)] [] 32 Tryz.func209 R Tryz.ntmps209 R R R R (fun β W F=>?_)
 refine G.seq<|G.rg<|K.box Y 100 _ g0 R R R R R R<|K.box Y 101 _ g0 R R R R R R<|K.alloc Y 102 _ g0 t103 R R R R R<|K.nil<|At.ns<|G.seq<|G.rg<|K.fieldAddr Y g0 R t103 R R<|K.load1 Y g0 R R t3 R R<|K.bin (V:=.bool (a0.n == 0)) g0 R R (fun _=>R) R<|K.nil<|At.next<|G.cond R (fun h1=>?_) (fun h1=>?_)
 ·
  replace H0:=bif_t H0 h1
  refine G.seq<|G.rg<|K.loadS Y _ g0 R R t103 R R R<|K.store Y _ g0 R R R t103 R R R R R<|K.nil<|At.next<|G.ret<|At.over_ret<|At.done Y [(.cell 4 103,.agg [_,_,_])] R ⟨.st R R t103 R R,trivial⟩ (to':=[]) trivial ?_ ?_ R R R (.inl R)
  · cases H0;rfl
  · cases H0;rfl
 ·
  replace H0:=bif_f H0 h1
  refine G.skip<|At.ns<|G.seq<|G.rg<|K.fieldAddr Y g0 R t103 R R<|K.load1 Y g0 R R t3 R R<|K.bin (V:=.bool (a1.n == 0)) g0 R R (fun _=>R) R<|K.nil<|At.next<|G.cond R (fun h2=>?_) (fun h2=>?_)
  ·
   replace H0:=bif_t H0 h2
   refine G.seq<|G.rg<|K.loadS Y _ g0 R R t103 R R R<|K.store Y _ g0 R R R t103 R R R R R<|K.nil<|At.next<|G.ret<|At.over_ret<|At.done Y [(.cell 4 103,.agg [_,_,_])] R ⟨.st R R t103 R R,trivial⟩ (to':=[]) trivial ?_ ?_ R R R (.inl R)
   · cases H0;rfl
   · cases H0;rfl
  ·
   replace H0:=bif_f H0 h2
   refine G.skip<|At.nr<|K.fieldAddr Y g0 R t103 R R<|K.load1 Y g0 R R t3 R R<|K.fieldAddr Y g0 R t103 R R<|K.load1 Y g0 R R t3 R R<|K.bin (V:=.int .i64 (w64 (a0.n+a1.n))) g0 R R (fun _=>R) R<|K.fieldAddr Y g0 R t103 R R<|K.load1 Y g0 R R t3 R R<|K.fieldAddr Y g0 R t103 R R<|K.load1 Y g0 R R t3 R R<|K.bin (V:=.int .i64 (w64 (a0.sum+a1.sum))) g0 R R (fun _=>R) R<|K.fieldAddr Y g0 R t103 R R<|K.load1 Y g0 R R t3 R R<|K.fieldAddr Y g0 R t103 R R<|K.load1 Y g0 R R t3 R R<|K.fieldAddr Y g0 R t103 R R<|K.load1 Y g0 R R t3 R R<|K.bin (V:=.int .i64 (w64 (a0.sum+a1.low))) g0 R R (fun _=>R) R<|K.bi2 (V:=.int .i64 (gmin a0.low (w64 (a0.sum+a1.low)))) g0 R R (fun _ _=>R) R<|K.build Y [(0,_),(1,_),(2,_)] [_,_,_] [((.tmp 17),_),((.tmp 22),_),((.tmp 30),_)] g0 (AllE.spec ⟨R,R,R,trivial⟩) R R t103 R R<|K.store Y _ g0 R R R t103 R R R R R<|K.nil<|At.next<|G.ret<|At.done Y [(.cell 4 103,.agg [_,_,_])] R ⟨.st R R t103 R R,trivial⟩ (to':=[]) trivial ?_ ?_ R R R (.inl R)
   · cases H0;rfl
   · cases H0;rfl
theorem tide_Tide_Plus_con {k:Nat}  {a0:TTide} {a1:TTide} {r:TTide}  (H0:tide_Tide_Plus.f k a0 a1=some r):tide_Tide_Plus_st a0 a1 r :=
 SCon.ren (rn []) (tide_Tide_Plus_con0 (k:=k)   H0) trivial trivial (by simp) (by simp)
abbrev wave_Swell_taken_st (a0:TSwell) (r:TTook):Prop:=SCon Tryz.prog 212 [.a (.agg ((eTSwell a0).map .v))] [] (.a (.agg ((eTTook r).map .v))) [] []
theorem wave_Swell_taken_con0 {k:Nat}  {a0:TSwell} {r:TTook}  (H0:wave_Swell_taken.f k a0=some r):wave_Swell_taken_st a0 r:=by
 rw [wave_Swell_taken.f] at H0
 refine spec_of [(0,_)] [] 12 Tryz.func212 R Tryz.ntmps212 R R R R (fun β W F=>?_)
 refine G.seq<|G.rg<|K.box Y 100 _ g0 R R R R R R<|K.alloc Y 101 _ g0 t77 R R R R R<|K.nil<|At.ns<|G.seq<|G.rg<|K.fieldAddr Y g0 R t105 R R<|K.load1 Y g0 R R t3 R R<|K.fieldAddr Y g0 R t105 R R<|K.load1 Y g0 R R t3 R R<|K.bin (V:=.bool (a0.deletes == a0.free)) g0 R R (fun _=>R) R<|K.nil<|At.next<|G.cond R (fun h1=>?_) (fun h1=>?_)
 ·
  replace H0:=bif_t H0 h1
  refine G.seq<|G.rg<|K.build Y [] [_,_,_] [] g0 (AllE.spec trivial) R R t77 R R<|K.store Y _ g0 R R R t77 R R R R R<|K.nil<|At.next<|G.ret<|At.over_ret<|At.done Y [(.cell 2 77,.agg [_,_,_])] R ⟨.st R R t77 R R,trivial⟩ (to':=[]) trivial ?_ ?_ R R R (.inl R)
  · cases H0;rfl
  · cases H0;rfl
 ·
  replace H0:=bif_f H0 h1
  refine G.skip<|At.nr<|K.fieldAddr Y g0 R t105 R R<|K.loadS Y _ g0 R R t28 R R R<|K.build Y [(0,_),(1,_)] [_,_,_] [(_,_),((.tmp 10),_)] g0 (AllE.spec ⟨R,R,trivial⟩) R R t77 R R<|K.store Y _ g0 R R R t77 R R R R R<|K.nil<|At.next<|G.ret<|At.done Y [(.cell 2 77,.agg [_,_,_])] R ⟨.st R R t77 R R,trivial⟩ (to':=[]) trivial ?_ ?_ R R R (.inl R)
  · cases H0;rfl
  · cases H0;rfl
theorem wave_Swell_taken_con {k:Nat}  {a0:TSwell} {r:TTook}  (H0:wave_Swell_taken.f k a0=some r):wave_Swell_taken_st a0 r :=
 SCon.ren (rn []) (wave_Swell_taken_con0 (k:=k)   H0) trivial trivial (by simp) (by simp)
abbrev wave_better_st (a0:Int) (a1:TTook) (a2:TTook) (r:TTook):Prop:=SCon Tryz.prog 213 [.a (.c (.v (.int .i64 a0))),.a (.agg ((eTTook a1).map .v)),.a (.agg ((eTTook a2).map .v))] [] (.a (.agg ((eTTook r).map .v))) [] []
theorem wave_better_con0 {k:Nat}  {a0:Int} {a1:TTook} {a2:TTook} {r:TTook}  (H0:wave_better.f k a0 a1 a2=some r):wave_better_st a0 a1 a2 r:=by
 rw [wave_better.f] at H0
 refine spec_of [(0,_),(1,_),(2,_)] [] 26 Tryz.func213 R Tryz.ntmps213 R R R R (fun β W F=>?_)
 refine G.seq<|G.rg<|K.box Y 100 _ g0 R R R R R R<|K.box Y 101 _ g0 R R R R R R<|K.alloc Y 102 _ g0 t77 R R R R R<|K.nil<|At.ns<|G.seq ?_
 rcases Bool.eq_false_or_eq_true (!a1.found) with h1 | h1
 ·
  replace H0:=bif_t H0 h1
  refine G.rg<|K.fieldAddr Y g0 R t77 R R<|K.load1 Y g0 R R t4 R R<|K.un (V:=.bool (!a1.found)) g0 R (fun _=>R) R<|K.mv R R<|K.sk R R h1 R<|K.sk R R h1 R<|K.sk R R h1 R<|K.skipU R R R R R<|K.skipU R R R R R<|K.skipU R R R R R<|K.skipU R R R R R<|K.skipU R R R R R<|K.skipU R R R R R<|K.skipU R R R R R<|K.skipU R R R R R<|K.sk R R h1 R<|K.pickT g0 R (h1) R R<|K.nil<|At.next<|G.cond R (fun h2=>?_) (fun h2=>?_)
  ·
   refine G.seq<|G.rg<|K.loadS Y _ g0 R R t77 R R R<|K.store Y _ g0 R R R t77 R R R R R<|K.nil<|At.next<|G.ret<|At.over_ret<|At.done Y [(.cell 6 77,.agg [_,_,_])] R ⟨.st R R t77 R R,trivial⟩ (to':=[]) trivial ?_ ?_ R R R (.inl R)
   · cases H0;rfl
   · cases H0;rfl
  · cases h2
 ·
  replace H0:=bif_f H0 h1
  rcases Bool.eq_false_or_eq_true a2.found with h3 | h3
  ·
   replace H0:=bif_t H0 h3
   obtain ⟨x1,hx1,H0⟩:=bnd H0
   refine G.rg<|K.fieldAddr Y g0 R t77 R R<|K.load1 Y g0 R R t4 R R<|K.un (V:=.bool (!a1.found)) g0 R (fun _=>R) R<|K.mv R R<|K.fieldAddr Y (g1 R R h1) R t77 R R<|K.load1 Y (g1 R R h1) R R t4 R R<|K.move (.inl R) (g1 R R h1) R R<|K.move (.inl R) (g1 R R h3) R R<|K.fieldAddr Y (g1 R R h3) R t77 R R<|K.loadS Y _ (g1 R R h3) R R t28 R R R<|K.fieldAddr Y (g1 R R h3) R t77 R R<|K.loadS Y _ (g1 R R h3) R R t28 R R R<|K.cR (cf 46 R) (item_Compare_con hx1) (g1 R R h3) R R R R<|K.bin (V:=.int .i64 (w64 (a0*x1))) (g1 R R h3) R R (fun _=>R) R<|K.bin (V:=.bool (decide ((w64 (a0*x1))<0))) (g1 R R h3) R R (fun _=>R) R<|K.pickT (g1 R R h1) R (h3) R R<|K.pickF g0 R (h1) R R<|K.nil<|At.next<|G.cond R (fun h4=>?_) (fun h4=>?_)
   ·
    replace H0:=bif_t H0 h4
    refine G.seq<|G.rg<|K.loadS Y _ g0 R R t77 R R R<|K.store Y _ g0 R R R t77 R R R R R<|K.nil<|At.next<|G.ret<|At.over_ret<|At.done Y [(.cell 6 77,.agg [_,_,_])] R ⟨.st R R t77 R R,trivial⟩ (to':=[]) trivial ?_ ?_ R R R (.inl R)
    · cases H0;rfl
    · cases H0;rfl
   ·
    replace H0:=bif_f H0 h4
    refine G.skip<|At.nr<|K.loadS Y _ g0 R R t77 R R R<|K.store Y _ g0 R R R t77 R R R R R<|K.nil<|At.next<|G.ret<|At.done Y [(.cell 6 77,.agg [_,_,_])] R ⟨.st R R t77 R R,trivial⟩ (to':=[]) trivial ?_ ?_ R R R (.inl R)
    · cases H0;rfl
    · cases H0;rfl
  ·
   replace H0:=bif_f H0 h3
   refine G.rg<|K.fieldAddr Y g0 R t77 R R<|K.load1 Y g0 R R t4 R R<|K.un (V:=.bool (!a1.found)) g0 R (fun _=>R) R<|K.mv R R<|K.fieldAddr Y (g1 R R h1) R t77 R R<|K.load1 Y (g1 R R h1) R R t4 R R<|K.move (.inl R) (g1 R R h1) R R<|K.sk R R h3 R<|K.sk R R h3 R<|K.sk R R h3 R<|K.sk R R h3 R<|K.sk R R h3 R<|K.sk R R h3 R<|K.sk R R h3 R<|K.sk R R h3 R<|K.pickF (g1 R R h1) R (h3) R R<|K.pickF g0 R (h1) R R<|K.nil<|At.next<|G.cond R (fun h5=>?_) (fun h5=>?_)
   · cases h5
   ·
    refine G.skip<|At.nr<|K.loadS Y _ g0 R R t77 R R R<|K.store Y _ g0 R R R t77 R R R R R<|K.nil<|At.next<|G.ret<|At.done Y [(.cell 6 77,.agg [_,_,_])] R ⟨.st R R t77 R R,trivial⟩ (to':=[]) trivial ?_ ?_ R R R (.inl R)
    · cases H0;rfl
    · cases H0;rfl
theorem wave_better_con {k:Nat}  {a0:Int} {a1:TTook} {a2:TTook} {r:TTook}  (H0:wave_better.f k a0 a1 a2=some r):wave_better_st a0 a1 a2 r :=
 SCon.ren (rn []) (wave_better_con0 (k:=k)   H0) trivial trivial (by simp) (by simp)
abbrev wave_Swell_Plus_st (a0:TSwell) (a1:TSwell) (r:TSwell):Prop:=SCon Tryz.prog 211 [.a (.agg ((eTSwell a0).map .v)),.a (.agg ((eTSwell a1).map .v))] [] (.a (.agg ((eTSwell r).map .v))) [] []
theorem wave_Swell_Plus_con0 {k:Nat}  {a0:TSwell} {a1:TSwell} {r:TSwell}  (H0:wave_Swell_Plus.f k a0 a1=some r):wave_Swell_Plus_st a0 a1 r:=by
 rw [wave_Swell_Plus.f] at H0
 refine spec_of [(0,_),(1,_)] [] 42 Tryz.func211 R Tryz.ntmps211 R R R R (fun β W F=>?_)
 refine G.seq<|G.rg<|K.box Y 100 _ g0 R R R R R R<|K.box Y 101 _ g0 R R R R R R<|K.alloc Y 102 _ g0 t105 R R R R R<|K.nil<|At.ns ?_
 obtain ⟨x1,hx1,H0⟩:=bnd H0
 obtain ⟨x2,hx2,H0⟩:=bnd H0
 obtain ⟨x3,hx3,H0⟩:=bnd H0
 obtain ⟨x4,hx4,H0⟩:=bnd H0
 obtain ⟨x5,hx5,H0⟩:=bnd H0
 obtain ⟨x6,hx6,H0⟩:=bnd H0
 obtain ⟨x7,hx7,H0⟩:=bnd H0
 refine G.rd mixed<|K.fieldAddr Y g0 R t105 R R<|K.loadS Y _ g0 R R t103 R R R<|K.fieldAddr Y g0 R t105 R R<|K.loadS Y _ g0 R R t103 R R R<|K.cR (cf 209 R) (tide_Tide_Plus_con hx1) g0 R R R R<|K.fieldAddr Y g0 R t105 R R<|K.loadS Y _ g0 R R t103 R R R<|K.fieldAddr Y g0 R t105 R R<|K.loadS Y _ g0 R R t103 R R R<|K.cR (cf 209 R) (tide_Tide_Plus_con hx2) g0 R R R R<|K.fieldAddr Y g0 R t105 R R<|K.load1 Y g0 R R t3 R R<|K.fieldAddr Y g0 R t105 R R<|K.load1 Y g0 R R t3 R R<|K.bin (V:=.int .i64 (w64 (a0.deletes+a1.deletes))) g0 R R (fun _=>R) R<|K.fieldAddr Y g0 R t105 R R<|K.load1 Y g0 R R t3 R R<|K.fieldAddr Y g0 R t105 R R<|K.load1 Y g0 R R t3 R R<|K.bin (V:=.int .i64 (w64 (a0.free+a1.free))) g0 R R (fun _=>R) R<|K.loadS Y _ g0 R R t105 R R R<|K.cR (cf 212 R) (wave_Swell_taken_con hx3) g0 R R R R<|K.loadS Y _ g0 R R t105 R R R<|K.cR (cf 212 R) (wave_Swell_taken_con hx4) g0 R R R R<|K.cR (cf 213 R) (wave_better_con hx5) g0 R R R R<|K.fieldS Y _ g0 R t77 R t28 R R<|K.fieldAddr Y g0 R t105 R R<|K.loadS Y _ g0 R R t77 R R R<|K.fieldAddr Y g0 R t105 R R<|K.loadS Y _ g0 R R t77 R R R<|K.cR (cf 213 R) (wave_better_con hx6) g0 R R R R<|K.fieldAddr Y g0 R t105 R R<|K.loadS Y _ g0 R R t77 R R R<|K.fieldAddr Y g0 R t105 R R<|K.loadS Y _ g0 R R t77 R R R<|K.cR (cf 213 R) (wave_better_con hx7) g0 R R R R<|K.build Y [(0,_),(1,_),(2,_),(3,_),(4,_),(5,_),(6,_)] [_,_,_,_,_,_,_,_,_,_,_,_,_,_,_,_] [((.tmp 9),_),((.tmp 14),_),((.tmp 19),_),((.tmp 24),_),((.tmp 30),_),((.tmp 35),_),((.tmp 40),_)] g0 (AllE.spec ⟨R,R,R,R,R,R,R,trivial⟩) R R t105 R R<|K.store Y _ g0 R R R t105 R R R R R<|K.nil<|And.intro (by kernel_rfl)<|At.next<|G.ret<|At.done Y [(.cell 4 105,.agg [_,_,_,_,_,_,_,_,_,_,_,_,_,_,_,_])] R ⟨.st R R t105 R R,trivial⟩ (to':=[]) trivial ?_ ?_ R R R (.inl R)
 · cases H0;rfl
 · cases H0;rfl
theorem wave_Swell_Plus_con {k:Nat}  {a0:TSwell} {a1:TSwell} {r:TSwell}  (H0:wave_Swell_Plus.f k a0 a1=some r):wave_Swell_Plus_st a0 a1 r :=
 SCon.ren (rn []) (wave_Swell_Plus_con0 (k:=k)   H0) trivial trivial (by simp) (by simp)
abbrev tide_Of_st (S:Foot) (W0:World) (s0:Value) (r:TTide):Prop:=SCon Tryz.prog 208 [SV.raw s0] [(0,rd S W0)] (.a (.agg ((eTTide r).map .v))) [(0,rd S W0)] []
theorem tide_Of_con0 {k:Nat}  {S:Foot} {W0:World} {s0:Value} {l0:List Int} {r:TTide} (hL0:LArg S W0 s0 intE 1 l0) (H0:tide_Of.f k l0=some r):tide_Of_st S W0 s0 r:=by
 rw [tide_Of.f] at H0
 obtain ⟨b0,o0,hI0⟩:=hL0
 refine spec_of [(0,_)] [(0,_)] 19 Tryz.func208 R Tryz.ntmps208 R R R R (fun β W F=>?_)
 refine G.seq<|G.rg<|K.alloc Y 100 _ g0 t103 R R R R R<|K.nil<|At.nr<|K.alloc Y 101 _ g0 t103 R R R R R<|K.nil<|At.next ?_
 obtain ⟨x1,H1,H0⟩:=bnd H0
 refine G.sJ (σ:={ v:TTide // x1=v }) (fun q=>[(2,.a (.c (.p 102 0))),(3,.a (.c (.p 103 0)))]) (fun q=>[(0,rd S W0),(102,blk 102 [.v (.int .i64 0),.v (.int .i64 0),.v (.int .i64 0)] 103),(103,blk 103 [.v (.int .i64 q.1.n),.v (.int .i64 q.1.sum),.v (.int .i64 q.1.low)] 103)]) ?_ ?_
 ·
  refine G.seq<|G.rg<|K.mv R R<|K.lenL (rV 0 S W0 s0 b0 o0 intE 1 l0) (hI0.is 0) g0 R R Tryz.underlying161 R<|K.mv R R<|K.nil<|At.next<|G.block<|G.lp (σ:={ q:Nat×(TTide×Int) // tide_Of.l0 k l0 q.1 q.2=some x1 }) (fun q=>[(2,.a (.c (.p 108 0))),(3,.a (.c (.p 109 0))),(6,SV.raw s0),(7,.a (.c (.v (.int .i64 (l0.length:Int))))),(8,.a (.c (.v (.int .i64 q.1.2.2))))]) (fun q=>[(0,rd S W0),(108,blk 108 [.v (.int .i64 0),.v (.int .i64 0),.v (.int .i64 0)] 103),(109,blk 109 [.v (.int .i64 q.1.2.1.n),.v (.int .i64 q.1.2.1.sum),.v (.int .i64 q.1.2.1.low)] 103)]) (fun q=>q.1.1) ⟨(k,(zTTide,0)),H1⟩ ?_ ?_
  · exact At.into [(108,100),(109,101)] [_,_,_] R ⟨R,R,R,R,R,trivial⟩ ⟨R,(fun _=>R),R,(blk_ren R R),R,(blk_ren R R),trivial⟩ R
  ·
   rintro ⟨⟨n0,v1,v2⟩,H1⟩
   show G _ _ [(2,.a (.c (.p 108 0))),(3,.a (.c (.p 109 0))),(6,SV.raw s0),(7,.a (.c (.v (.int .i64 (l0.length:Int))))),(8,.a (.c (.v (.int .i64 v2))))] [(0,some (rd S W0)),(108,some (blk 108 [.v (.int .i64 0),.v (.int .i64 0),.v (.int .i64 0)] 103)),(109,some (blk 109 [.v (.int .i64 v1.n),.v (.int .i64 v1.sum),.v (.int .i64 v1.low)] 103))] _ _
   cases n0 with
   | zero => exact absurd H1 (by simp [tide_Of.l0])
   | succ n0 =>
    have HL0:=H1
    rw [tide_Of.l0] at H1
    refine G.seq<|G.rg<|K.bin (V:=.bool (decide (v2<(l0.length:Int)))) g0 R R (fun _=>R) R<|K.nil<|At.ns<|G.cond R (fun h1=>?_) (fun h1=>?_)
    ·
     replace H1:=bif_t H1 h1
     refine G.skip<|At.ns<|G.block<|G.seq ?_
     obtain ⟨x2,hx2,H1⟩:=bnd H1
     refine G.rg<|K.idxL (rV 0 S W0 s0 b0 o0 intE 1 l0) ((v2).toNat) (hI0.is 0) (atL_get hx2) (atL_nn hx2) g0 R R R Tryz.underlying161 el161.size_run R<|K.load1L Y (rV 0 S W0 s0 b0 o0 intE 1 l0) ((v2).toNat) 0 (hI0.is 0) (atL_get hx2) g0 R R t3 R R<|K.as R R<|K.nil<|At.next ?_
     obtain ⟨x3,hx3,H1⟩:=bnd H1
     exact G.rg<|K.loadS Y _ g0 R R t103 R R R<|K.mv R R<|K.mv R R<|K.build Y [(0,_),(1,_),(2,_)] [_,_,_] [(_,_),((.tmp 13),_),((.tmp 14),_)] g0 (AllE.spec ⟨R,R,R,trivial⟩) R R t103 R R<|K.cR (cf 209 R) (tide_Tide_Plus_con hx3) g0 R R R R<|K.store Y _ g0 R R R t103 R R R R R<|K.nil<|At.block_normal<|At.next<|G.rg<|K.bin (V:=.int .i64 (w64 (v2+1))) g0 R R (fun _=>R) R<|K.mv R R<|K.nil<|At.ag ⟨(n0,(x3,(w64 (v2+1)))),H1⟩ [] [_,_,_] (Nat.lt_succ_self _) R ⟨R,R,R,R,R,trivial⟩ ⟨R,(fun _=>R),R,(blk_ren R R),R,(blk_ren R R),trivial⟩ R
    ·
     replace H1:=bif_f H1 h1
     exact G.exit<|At.over_exit<|At.over_exit<|At.block_hit<|At.jd ⟨v1,oi H1⟩ [(102,108),(103,109)] [_,_,_] R ⟨R,R,trivial⟩ ⟨R,(fun _=>R),R,(blk_ren R R),R,(blk_ren R R),trivial⟩ R
 ·
  rintro ⟨_,rfl⟩
  show G _ _ [(2,.a (.c (.p 102 0))),(3,.a (.c (.p 103 0)))] [(0,some (rd S W0)),(102,some (blk 102 [.v (.int .i64 0),.v (.int .i64 0),.v (.int .i64 0)] 103)),(103,some (blk 103 [.v (.int .i64 x1.n),.v (.int .i64 x1.sum),.v (.int .i64 x1.low)] 103))] _ _
  refine G.seq<|G.rg<|K.loadS Y _ g0 R R t103 R R R<|K.store Y _ g0 R R R t103 R R R R R<|K.nil<|At.next<|G.ret<|At.done Y [(.cell 2 103,.agg [_,_,_])] R ⟨.st R R t103 R R,trivial⟩ (to':=[(0,_)]) ⟨R,trivial⟩ ?_ ?_ R R R (.inl R)
  · cases H0;rfl
  · cases H0;rfl
theorem tide_Of_con {k:Nat}  {S:Foot} {W0:World} {s0:Value} {l0:List Int} {r:TTide} (hL0:LArg S W0 s0 intE 1 l0) (H0:tide_Of.f k l0=some r):tide_Of_st S W0 s0 r :=
 SCon.ren (rn []) (tide_Of_con0 (k:=k)  hL0 H0) ⟨(fun _=>R),trivial⟩ ⟨(fun _=>R),trivial⟩ (by simp) (by simp)
abbrev wave_Mark_Sum_st (a0:TMark) (r:TSwell):Prop:=SCon Tryz.prog 207 [.a (.agg ((eTMark a0).map .v))] [] (.a (.agg ((eTSwell r).map .v))) [] []
theorem wave_Mark_Sum_con0 {k:Nat}  {a0:TMark} {r:TSwell}  (H0:wave_Mark_Sum.f k a0=some r):wave_Mark_Sum_st a0 r:=by
 rw [wave_Mark_Sum.f] at H0
 refine spec_of [(0,_)] [] 48 Tryz.func207 R Tryz.ntmps207 R R R R (fun β W F=>?_)
 refine G.seq<|G.rg<|K.box Y 100 _ g0 R R R R R R<|K.alloc Y 101 _ g0 t105 R R R R R<|K.nil<|At.next ?_
 obtain ⟨x1,H1,H0⟩:=bnd H0
 refine G.sJ (σ:={ v:Unit // x1=Sum.inr v }) (fun q=>[(1,.a (.c (.p 102 0))),(2,.a (.c (.p 103 0)))]) (fun q=>[(102,blk 102 [.v (.int .i64 a0.op.time),.v (.bool a0.op.insert),.v (.int .i64 a0.op.item.key),.v (.int .i64 a0.op.item.id),.v (.bool a0.here),.v (.bool a0.took.found),.v (.int .i64 a0.took.item.key),.v (.int .i64 a0.took.item.id)] 101),(103,blk 103 [.v (.int .i64 0),.v (.int .i64 0),.v (.int .i64 0),.v (.int .i64 0),.v (.int .i64 0),.v (.int .i64 0),.v (.int .i64 0),.v (.int .i64 0),.v (.int .i64 0),.v (.int .i64 0),.v (.bool false),.v (.int .i64 0),.v (.int .i64 0),.v (.bool false),.v (.int .i64 0),.v (.int .i64 0)] 105)]) ?_ ?_
 ·
  refine G.block ?_
  obtain ⟨x2,H2,H1⟩:=bnd H1
  refine G.sJ (σ:={ v:Bool // x2=v }) (fun q=>[(1,.a (.c (.p 104 0))),(2,.a (.c (.p 105 0))),(4,.a (.c (.v (.bool q.1))))]) (fun q=>[(104,blk 104 [.v (.int .i64 a0.op.time),.v (.bool a0.op.insert),.v (.int .i64 a0.op.item.key),.v (.int .i64 a0.op.item.id),.v (.bool a0.here),.v (.bool a0.took.found),.v (.int .i64 a0.took.item.key),.v (.int .i64 a0.took.item.id)] 101),(105,blk 105 [.v (.int .i64 0),.v (.int .i64 0),.v (.int .i64 0),.v (.int .i64 0),.v (.int .i64 0),.v (.int .i64 0),.v (.int .i64 0),.v (.int .i64 0),.v (.int .i64 0),.v (.int .i64 0),.v (.bool false),.v (.int .i64 0),.v (.int .i64 0),.v (.bool false),.v (.int .i64 0),.v (.int .i64 0)] 105)]) ?_ ?_
  ·
   rcases Bool.eq_false_or_eq_true a0.op.insert with h1 | h1
   ·
    replace H2:=bif_t H2 h1
    exact G.rg<|K.fieldAddr Y g0 R t101 R R<|K.fieldAddr Y g0 R t45 R R<|K.load1 Y g0 R R t4 R R<|K.mv R R<|K.fieldAddr Y (g1 R R h1) R t101 R R<|K.load1 Y (g1 R R h1) R R t4 R R<|K.pickT g0 R (h1) R R<|K.as R R<|K.nil<|At.jd ⟨a0.here,oi H2⟩ [(104,100),(105,101)] [_,_] R ⟨R,R,R,trivial⟩ ⟨R,(blk_ren R R),R,(blk_ren R R),trivial⟩ R
   ·
    replace H2:=bif_f H2 h1
    exact G.rg<|K.fieldAddr Y g0 R t101 R R<|K.fieldAddr Y g0 R t45 R R<|K.load1 Y g0 R R t4 R R<|K.mv R R<|K.sk R R h1 R<|K.sk R R h1 R<|K.pickF g0 R (h1) R R<|K.as R R<|K.nil<|At.jd ⟨false,oi H2⟩ [(104,100),(105,101)] [_,_] R ⟨R,R,R,trivial⟩ ⟨R,(blk_ren R R),R,(blk_ren R R),trivial⟩ R
  ·
   rintro ⟨_,rfl⟩
   show G _ _ [(1,.a (.c (.p 104 0))),(2,.a (.c (.p 105 0))),(4,.a (.c (.v (.bool x2))))] [(104,some (blk 104 [.v (.int .i64 a0.op.time),.v (.bool a0.op.insert),.v (.int .i64 a0.op.item.key),.v (.int .i64 a0.op.item.id),.v (.bool a0.here),.v (.bool a0.took.found),.v (.int .i64 a0.took.item.key),.v (.int .i64 a0.took.item.id)] 101)),(105,some (blk 105 [.v (.int .i64 0),.v (.int .i64 0),.v (.int .i64 0),.v (.int .i64 0),.v (.int .i64 0),.v (.int .i64 0),.v (.int .i64 0),.v (.int .i64 0),.v (.int .i64 0),.v (.int .i64 0),.v (.bool false),.v (.int .i64 0),.v (.int .i64 0),.v (.bool false),.v (.int .i64 0),.v (.int .i64 0)] 105))] _ _
   refine G.cond R (fun h2=>?_) (fun h2=>?_)
   ·
    replace H1:=bif_t H1 h2
    refine G.seq ?_
    obtain ⟨x3,hx3,H1⟩:=bnd H1
    obtain ⟨x4,hx4,H1⟩:=bnd H1
    refine G.rd mixed<|K.buildL Y 106 ([1]:List Int) [(0,_)] [(_,_)] intE_len g0 (AllE.spec ⟨R,trivial⟩) R R Tryz.underlying161 t3 R R R R R R R R<|K.cV (cf 208 R) [106] (fun β w S2 h=>tide_Of_con (la 0 R intE_len R h) hx3) g0 (fun _=>R) R R R<|K.buildL Y 107 ([0]:List Int) [(0,_)] [(_,_)] intE_len g0 (AllE.spec ⟨R,trivial⟩) R R Tryz.underlying161 t3 R R R R R R R R<|K.cV (cf 208 R) [107] (fun β w S2 h=>tide_Of_con (la 0 R intE_len R h) hx4) g0 (fun _=>R) R R R<|K.fieldAddr Y g0 R t101 R R<|K.fieldAddr Y g0 R t45 R R<|K.loadS Y _ g0 R R t28 R R R<|K.build Y [(0,_),(1,_)] [_,_,_] [(_,_),((.tmp 18),_)] g0 (AllE.spec ⟨R,R,trivial⟩) R R t77 R R<|K.build Y [(0,_),(1,_),(6,_)] [_,_,_,_,_,_,_,_,_,_,_,_,_,_,_,_] [((.tmp 13),_),((.tmp 15),_),((.tmp 19),_)] g0 (AllE.spec ⟨R,R,R,trivial⟩) R R t105 R R<|K.store Y _ g0 R R R t105 R R R R R<|K.nil<|And.intro (by kernel_rfl)<|At.next<|G.ret<|At.block_ret<|At.over_ret ?_
    cases H1
    replace H0:=sum_l H0
    refine At.done Y [(.cell 2 105,.agg [_,_,_,_,_,_,_,_,_,_,_,_,_,_,_,_])] R ⟨.st R R t105 R R,trivial⟩ (to':=[]) trivial ?_ ?_ R R R (.inl R)
    · cases H0;rfl
    · cases H0;rfl
   ·
    replace H1:=bif_f H1 h2
    refine G.seq<|G.rg<|K.fieldAddr Y g0 R t101 R R<|K.fieldAddr Y g0 R t45 R R<|K.load1 Y g0 R R t4 R R<|K.as R R<|K.nil<|At.next<|G.cond R (fun h3=>?_) (fun h3=>?_)
    ·
     replace H1:=bif_t H1 h3
     refine G.seq ?_
     obtain ⟨x5,hx5,H1⟩:=bnd H1
     obtain ⟨x6,hx6,H1⟩:=bnd H1
     refine G.rd mixed<|K.buildL Y 108 ([1]:List Int) [(0,_)] [(_,_)] intE_len g0 (AllE.spec ⟨R,trivial⟩) R R Tryz.underlying161 t3 R R R R R R R R<|K.cV (cf 208 R) [108] (fun β w S2 h=>tide_Of_con (la 0 R intE_len R h) hx5) g0 (fun _=>R) R R R<|K.buildL Y 109 ([1]:List Int) [(0,_)] [(_,_)] intE_len g0 (AllE.spec ⟨R,trivial⟩) R R Tryz.underlying161 t3 R R R R R R R R<|K.cV (cf 208 R) [109] (fun β w S2 h=>tide_Of_con (la 0 R intE_len R h) hx6) g0 (fun _=>R) R R R<|K.fieldAddr Y g0 R t101 R R<|K.fieldAddr Y g0 R t45 R R<|K.loadS Y _ g0 R R t28 R R R<|K.build Y [(0,_),(1,_)] [_,_,_] [(_,_),((.tmp 31),_)] g0 (AllE.spec ⟨R,R,trivial⟩) R R t77 R R<|K.build Y [(0,_),(1,_),(5,_)] [_,_,_,_,_,_,_,_,_,_,_,_,_,_,_,_] [((.tmp 26),_),((.tmp 28),_),((.tmp 32),_)] g0 (AllE.spec ⟨R,R,R,trivial⟩) R R t105 R R<|K.store Y _ g0 R R R t105 R R R R R<|K.nil<|And.intro (by kernel_rfl)<|At.next<|G.ret<|At.block_ret<|At.over_ret ?_
     cases H1
     replace H0:=sum_l H0
     refine At.done Y [(.cell 2 105,.agg [_,_,_,_,_,_,_,_,_,_,_,_,_,_,_,_])] R ⟨.st R R t105 R R,trivial⟩ (to':=[]) trivial ?_ ?_ R R R (.inl R)
     · cases H0;rfl
     · cases H0;rfl
    ·
     replace H1:=bif_f H1 h3
     exact G.skip<|At.block_normal<|At.jd ⟨(),oi H1⟩ [(102,104),(103,105)] [_,_] R ⟨R,R,trivial⟩ ⟨R,(blk_ren R R),R,(blk_ren R R),trivial⟩ R
 ·
  rintro ⟨w1,rfl⟩
  replace H0:=sum_r H0
  show G _ _ [(1,.a (.c (.p 102 0))),(2,.a (.c (.p 103 0)))] [(102,some (blk 102 [.v (.int .i64 a0.op.time),.v (.bool a0.op.insert),.v (.int .i64 a0.op.item.key),.v (.int .i64 a0.op.item.id),.v (.bool a0.here),.v (.bool a0.took.found),.v (.int .i64 a0.took.item.key),.v (.int .i64 a0.took.item.id)] 101)),(103,some (blk 103 [.v (.int .i64 0),.v (.int .i64 0),.v (.int .i64 0),.v (.int .i64 0),.v (.int .i64 0),.v (.int .i64 0),.v (.int .i64 0),.v (.int .i64 0),.v (.int .i64 0),.v (.int .i64 0),.v (.bool false),.v (.int .i64 0),.v (.int .i64 0),.v (.bool false),.v (.int .i64 0),.v (.int .i64 0)] 105))] _ _
  refine G.seq ?_
  obtain ⟨x7,hx7,H0⟩:=bnd H0
  obtain ⟨x8,hx8,H0⟩:=bnd H0
  refine G.rg<|K.buildL Y 110 ([(-1)]:List Int) [(0,_)] [(_,_)] intE_len g0 (AllE.spec ⟨R,trivial⟩) R R Tryz.underlying161 t3 R R R R R R R R<|K.cV (cf 208 R) [110] (fun β w S2 h=>tide_Of_con (la 0 R intE_len R h) hx7) g0 (fun _=>R) R R R<|K.buildL Y 111 ([(-1)]:List Int) [(0,_)] [(_,_)] intE_len g0 (AllE.spec ⟨R,trivial⟩) R R Tryz.underlying161 t3 R R R R R R R R<|K.cV (cf 208 R) [111] (fun β w S2 h=>tide_Of_con (la 0 R intE_len R h) hx8) g0 (fun _=>R) R R R<|K.build Y [(0,_),(1,_),(2,_)] [_,_,_,_,_,_,_,_,_,_,_,_,_,_,_,_] [((.tmp 35),_),((.tmp 37),_),(_,_)] g0 (AllE.spec ⟨R,R,R,trivial⟩) R R t105 R R<|K.alloc Y 112 _ g0 t105 R R R R R<|K.store Y _ g0 R R R t105 R R R R R<|K.nil<|At.ns<|G.seq<|G.rg<|K.fieldAddr Y g0 R t101 R R<|K.fieldAddr Y g0 R t77 R R<|K.load1 Y g0 R R t4 R R<|K.nil<|At.next<|G.cond R (fun h4=>?_) (fun h4=>?_)
  ·
   replace H0:=bif_t H0 h4
   refine G.rg<|K.fieldAddr Y g0 R t101 R R<|K.fieldAddr Y g0 R t77 R R<|K.loadS Y _ g0 R R t28 R R R<|K.fieldAddr Y g0 R t105 R R<|K.store Y _ g0 R R R t28 R R R R R<|K.nil<|At.nr<|K.loadS Y _ g0 R R t105 R R R<|K.store Y _ g0 R R R t105 R R R R R<|K.nil<|At.next<|G.ret<|At.done Y [(.cell 2 105,.agg [_,_,_,_,_,_,_,_,_,_,_,_,_,_,_,_])] R ⟨.st R R t105 R R,trivial⟩ (to':=[]) trivial ?_ ?_ R R R (.inl R)
   · cases H0;rfl
   · cases H0;rfl
  ·
   replace H0:=bif_f H0 h4
   refine G.rg<|K.fieldAddr Y g0 R t105 R R<|K.store Y _ g0 R R R t3 R R R R R<|K.nil<|At.nr<|K.loadS Y _ g0 R R t105 R R R<|K.store Y _ g0 R R R t105 R R R R R<|K.nil<|At.next<|G.ret<|At.done Y [(.cell 2 105,.agg [_,_,_,_,_,_,_,_,_,_,_,_,_,_,_,_])] R ⟨.st R R t105 R R,trivial⟩ (to':=[]) trivial ?_ ?_ R R R (.inl R)
   · cases H0;rfl
   · cases H0;rfl
theorem wave_Mark_Sum_con {k:Nat}  {a0:TMark} {r:TSwell}  (H0:wave_Mark_Sum.f k a0=some r):wave_Mark_Sum_st a0 r :=
 SCon.ren (rn []) (wave_Mark_Sum_con0 (k:=k)   H0) trivial trivial (by simp) (by simp)
abbrev shelf_Slot_Sum_st (a0:TSlot) (r:TSize):Prop:=SCon Tryz.prog 202 [.a (.agg ((eTSlot a0).map .v))] [] (.a (.c (.v (.int .i64 r)))) [] []
theorem shelf_Slot_Sum_con0 {k:Nat}  {a0:TSlot} {r:TSize}  (H0:shelf_Slot_Sum.f k a0=some r):shelf_Slot_Sum_st a0 r:=by
 rw [shelf_Slot_Sum.f] at H0
 refine spec_of [(0,_)] [] 3 Tryz.func202 R Tryz.ntmps202 R R R R (fun β W F=>?_)
 exact G.seq<|G.rg<|K.box Y 100 _ g0 R R R R R R<|K.as R R<|K.nil<|At.nr<|K.as R R<|K.nil<|At.next<|G.ret<|At.dr Y [2] R R (by cases H0;rfl) (by cases H0;rfl) R R R
theorem shelf_Slot_Sum_con {k:Nat}  {a0:TSlot} {r:TSize}  (H0:shelf_Slot_Sum.f k a0=some r):shelf_Slot_Sum_st a0 r :=
 SCon.ren (rn []) (shelf_Slot_Sum_con0 (k:=k)   H0) trivial trivial (by simp) (by simp)
abbrev shelf_Size_Plus_st (a0:TSize) (a1:TSize) (r:TSize):Prop:=SCon Tryz.prog 203 [.a (.c (.v (.int .i64 a0))),.a (.c (.v (.int .i64 a1)))] [] (.a (.c (.v (.int .i64 r)))) [] []
theorem shelf_Size_Plus_con0 {k:Nat}  {a0:TSize} {a1:TSize} {r:TSize}  (H0:shelf_Size_Plus.f k a0 a1=some r):shelf_Size_Plus_st a0 a1 r:=by
 rw [shelf_Size_Plus.f] at H0
 refine spec_of [(0,_),(1,_)] [] 8 Tryz.func203 R Tryz.ntmps203 R R R R (fun β W F=>?_)
 exact G.seq<|G.rg<|K.as R R<|K.nil<|At.nr<|K.mv R R<|K.mv R R<|K.bin (V:=.int .i64 (w64 (a0+a1))) g0 R R (fun _=>R) R<|K.as R R<|K.nil<|At.next<|G.ret<|At.dr Y [4] R R (by cases H0;rfl) (by cases H0;rfl) R R R
theorem shelf_Size_Plus_con {k:Nat}  {a0:TSize} {a1:TSize} {r:TSize}  (H0:shelf_Size_Plus.f k a0 a1=some r):shelf_Size_Plus_st a0 a1 r :=
 SCon.ren (rn []) (shelf_Size_Plus_con0 (k:=k)   H0) trivial trivial (by simp) (by simp)
end Go.Proofs.YtgjbibabegabnaaGreat
namespace Go.Proofs.YtgjbibabegabnaaGreat
open Go Go.Proofs.YtgjbibabegabnaaGreat.Sx
abbrev fCM:Cell (TNode TMark TSwell)→List Value:=cellE eTNode_TMark_TSwell
theorem fCM_len : ∀ c,(fCM c).length=31:=cellE_len eTNode_TMark_TSwell_len
theorem fCM_one : ∀ c,(fCM c).all Value.oneCell'=true:=cellE_one eTNode_TMark_TSwell_one
abbrev avM (x:(TNode TMark TSwell)):Av:=.agg ((eTNode_TMark_TSwell x).map .v)
abbrev poolM (k:Nat) (p:Pool (TNode TMark TSwell)):Tok:=pool k 201 195 3 31 fCM p
theorem nextM (p:Pool (TNode TMark TSwell)) (hc:p.cells.length<4294967296) (hf:p.free.length<4294967296):SCon Tryz.prog 175 [SV.p 0 0] [(0,poolM 0 p)] (SV.i (p.next zNodeM).1) [(0,poolM 0 (p.next zNodeM).2)] []:=by
  obtain ⟨cells,free,cap,held,vis⟩:=p
  simp only at hc hf
  rcases List.eq_nil_or_concat free with h0 | ⟨l,x,h0⟩
  · subst h0
    refine spec_of [(0,_)] [(0,_)] 46 Tryz.func175 R Tryz.ntmps175 R R R R (fun β W F=>?_)
    refine G.ent [(0,_)] [(0,_),(21,_),(22,_)] [21,22] (pool_open (by decide) (by decide) (by decide)) ⟨R,trivial⟩ R R R R<|G.seq<|G.rg<|K.as R R<|K.nil<|At.ns<|G.seq<|G.rg<|K.mv R R<|K.nilCheck g0 R R<|K.fieldAddr Y g0 R t201 R R<|K.load1 Y g0 R R t161 R R<|K.lenL (lrowV 22 3 intE 1 _) (lrowV_is intE_len (by decide)) g0 R R Tryz.underlying161 R<|K.bin g0 R R (fun _=>R) R<|K.as R R<|K.nil<|At.nr<|K.mv R R<|K.bin g0 R R (fun _=>R) R<|K.nil<|At.next<|G.cond R (fun h1=>?_) (fun h1=>?_)
    · exact absurd h1 (by simp [IntKind.wrap_i64] at * <;> omega)
    ·
      refine G.skip<|At.nr<|K.mv R R<|K.mv R R<|K.nilCheck g0 R R<|K.fieldAddr Y g0 R t201 R R<|K.load1 Y g0 R R t199 R R<|K.build Y [] [_,_,_,_,_,_,_,_,_,_,_,_,_,_,_,_,_,_,_,_,_,_,_,_,_,_,_,_,_,_,_] [] g0 (AllE.spec trivial) R R t195 R R<|K.buildL Y 136 [(⟨zNodeM,0,false⟩:Cell (TNode TMark TSwell))] [(0,_)] [((.tmp 35),_)] fCM_len g0 (AllE.spec ⟨R,trivial⟩) R R Tryz.underlying199 t195 R R R R R R R R<|K.appendL 137 (lrowV 136 195 fCM 31 _) _ el199 (lrowV_is fCM_len (by decide)) fCM_one g0 R R R R R (by simp only [List.length_cons,List.length_nil,maxLen];omega) (by simp only [List.length_cons,List.length_nil,maxLen];omega) R R R R R R<|K.nilCheck g0 R R<|K.fieldAddr Y g0 R t201 R R<|K.store Y _ g0 R R R t199 R R R R R<|K.nil<|At.nr<|K.mv R R<|K.nilCheck g0 R R<|K.fieldAddr Y g0 R t201 R R<|K.load1 Y g0 R R t199 R R<|K.lenL (lrowV 137 195 fCM 31 _) (lrowV_is fCM_len (by decide)) g0 R R Tryz.underlying199 R<|K.bin g0 R R (fun _=>R) R<|K.as R R<|K.nil<|At.next<|G.ret<|At.ent [(0,_),(137,_),(22,_)] [(0,poolM 0 ⟨_,_,_,_,_⟩)] [] (pool_close _ _ _ _ _) ⟨R,R,R,trivial⟩ R R R R<|At.done Y [(.tmp 2,.c _)] R ⟨.tmp R,trivial⟩ (to':=[(0,_)]) ⟨R,trivial⟩ ?_ ?_ R R R (.inl R)
      · simp [Pool.next, *]
      · exact ret_i (by simp [Pool.next,IntKind.wrap_i64];omega)
  · rw [List.concat_eq_append] at h0;subst h0
    have hget:(l++[x])[l.length]? = some x:=by simp
    refine spec_of [(0,_)] [(0,_)] 46 Tryz.func175 R Tryz.ntmps175 R R R R (fun β W F=>?_)
    refine G.ent [(0,_)] [(0,_),(21,_),(22,_)] [21,22] (pool_open (by decide) (by decide) (by decide)) ⟨R,trivial⟩ R R R R<|G.seq<|G.rg<|K.as R R<|K.nil<|At.ns<|G.seq<|G.rg<|K.mv R R<|K.nilCheck g0 R R<|K.fieldAddr Y g0 R t201 R R<|K.load1 Y g0 R R t161 R R<|K.lenL (lrowV 22 3 intE 1 _) (lrowV_is intE_len (by decide)) g0 R R Tryz.underlying161 R<|K.bin g0 R R (fun _=>R) R<|K.as R R<|K.nil<|At.nr<|K.mv R R<|K.bin g0 R R (fun _=>R) R<|K.nil<|At.next<|G.cond R (fun h1=>?_) (fun h1=>?_)
    ·
      refine G.seq<|G.rg<|K.mv R R<|K.nilCheck g0 R R<|K.fieldAddr Y g0 R t201 R R<|K.load1 Y g0 R R t161 R R<|K.mv R R<|K.idxL (lrowV 22 3 intE 1 _) l.length (lrowV_is intE_len (by decide)) hget (by simp [IntKind.wrap_i64] at * <;> omega) g0 R R R Tryz.underlying161 el161.size_run R<|K.load1L Y (lrowV 22 3 intE 1 _) l.length 0 (lrowV_is intE_len (by decide)) hget g0 R R t3 R R<|K.as R R<|K.nil<|At.nr<|K.mv R R<|K.mv R R<|K.nilCheck g0 R R<|K.fieldAddr Y g0 R t201 R R<|K.load1 Y g0 R R t161 R R<|K.mv R R<|K.cutL 126 l.length intE_len g0 R (.at_ R (by simp [IntKind.wrap_i64] at * <;> omega) (by simp [IntKind.wrap_i64] at * <;> omega)) R Tryz.underlying161 el161.size_run (by simp) R R R R<|K.nilCheck g0 R R<|K.fieldAddr Y g0 R t201 R R<|K.store Y _ g0 R R R t161 R R R R R<|K.nil<|At.nr<|K.mv R R<|K.as R R<|K.nil<|At.next<|G.ret<|At.over_ret<|At.ent [(0,_),(21,_),(126,_)] [(0,poolM 0 ⟨_,_,_,_,_⟩)] [] (pool_close _ _ _ _ _) ⟨R,R,R,trivial⟩ R R R R<|At.done Y [(.tmp 2,.c _)] R ⟨.tmp R,trivial⟩ (to':=[(0,_)]) ⟨R,trivial⟩ ?_ ?_ R R R (.inl R)
      · simp [Pool.next, *]
      · exact ret_i (by simp [Pool.next])
    · exact absurd h1 (by simp [IntKind.wrap_i64] at * <;> omega)
theorem findSM {cells:List (Cell (TNode TMark TSwell))} {n:Nat} {c:Cell (TNode TMark TSwell)} (hg:cells[n]? = some c) (hl:c.live=true) (hlen:cells.length<4294967296) (cap held vis:Int):SCon Tryz.prog 138 [SV.p 0 0,SV.agg [.i (n:Int),.i c.gen]] [(0,blk 0 [.nv 1,.nv 2,.i cap,.i held,.i vis] 201),(1,lrow 1 195 fCM 31 cells)] (.a (.c (.rp 1 (n*31)))) [(0,blk 0 [.nv 1,.nv 2,.i cap,.i held,.i (IntKind.i64.wrap (vis+1))] 201),(1,lrow 1 195 fCM 31 cells)] []:=by
  have hlt:=(List.getElem?_eq_some_iff.1 hg).1
  refine spec_of [(0,_),(1,_)] [(0,_),(1,_)] 48 Tryz.func138 R Tryz.ntmps138 R R R R (fun β W F=>?_)
  refine G.seq<|G.rg<|K.box Y 103 _ g0 R R R R R R<|K.as R R<|K.nil<|At.ns<|G.seq ?_
  have h1:(decide ((n:Int)<0))=false:=by simp [IntKind.wrap_i64] at * <;> omega
  refine G.rd mixed<|K.fieldAddr Y g0 R t119 R R<|K.load1 Y g0 R R t3 R R<|K.bin g0 R R (fun _=>R) R<|K.mv R R<|K.fieldAddr Y (g1 R R h1) R t119 R R<|K.load1 Y (g1 R R h1) R R t3 R R<|K.move (.inl R) (g1 R R h1) R R<|K.nilCheck (g1 R R h1) R R<|K.fieldAddr Y (g1 R R h1) R t201 R R<|K.load1 Y (g1 R R h1) R R t199 R R<|K.lenL (lrowV 1 195 fCM 31 _) (lrowV_is fCM_len (by decide)) (g1 R R h1) R R Tryz.underlying199 R<|K.bin (g1 R R h1) R R (fun _=>R) R<|K.pickF g0 R (h1) R R<|K.nil<|And.intro (by kernel_rfl)<|At.next<|G.cond R (fun h2=>?_) (fun h2=>?_)
  · exact absurd h2 (by simp [IntKind.wrap_i64] at * <;> omega)
  ·
    refine G.skip<|At.ns<|G.rd mixed<|K.mv R R<|K.nilCheck g0 R R<|K.fieldAddr Y g0 R t201 R R<|K.load1 Y g0 R R t199 R R<|K.fieldAddr Y g0 R t119 R R<|K.load1 Y g0 R R t3 R R<|K.idxL (lrowV 1 195 fCM 31 _) n (lrowV_is fCM_len (by decide)) hg R g0 R R R Tryz.underlying199 el199.size_run R<|K.as R R<|K.nil<|And.intro (by kernel_rfl)<|At.ns<|G.seq ?_
    have h3:(!c.live)=false:=by simp [hl]
    refine G.rd mixed<|K.mv R R<|K.nilL (lrowV 1 195 fCM 31 _) n 0 (lrowV_is fCM_len (by decide)) hg g0 R R R R<|K.fieldL Y (lrowV 1 195 fCM 31 _) n 0 30 (lrowV_is fCM_len (by decide)) hg g0 R R t195 R R R R<|K.load1L Y (lrowV 1 195 fCM 31 _) n 30 (lrowV_is fCM_len (by decide)) hg g0 R R t4 R R<|K.un g0 R (fun _=>R) R<|K.mv R R<|K.move (.inl R) (g1 R R h3) R R<|K.nilL (lrowV 1 195 fCM 31 _) n 0 (lrowV_is fCM_len (by decide)) hg (g1 R R h3) R R R R<|K.fieldL Y (lrowV 1 195 fCM 31 _) n 0 29 (lrowV_is fCM_len (by decide)) hg (g1 R R h3) R R t195 R R R R<|K.load1L Y (lrowV 1 195 fCM 31 _) n 29 (lrowV_is fCM_len (by decide)) hg (g1 R R h3) R R t3 R R<|K.fieldAddr Y (g1 R R h3) R t119 R R<|K.load1 Y (g1 R R h3) R R t3 R R<|K.bin (g1 R R h3) R R (fun _=>R) R<|K.pickF g0 R (h3) R R<|K.nil<|And.intro (by kernel_rfl)<|At.next<|G.cond R (fun h4=>?_) (fun h4=>?_)
    · exact absurd h4 (by simp)
    ·
      refine G.skip<|At.nr<|K.mv R R<|K.nilCheck g0 R R<|K.fieldAddr Y g0 R t201 R R<|K.load1 Y g0 R R t3 R R<|K.bin g0 R R (fun _=>R) R<|K.nilCheck g0 R R<|K.fieldAddr Y g0 R t201 R R<|K.store Y _ g0 R R R t3 R R R R R<|K.nil<|At.nr<|K.mv R R<|K.as R R<|K.nil<|At.next<|G.ret<|At.done Y [(.tmp 4,.c _)] R ⟨.tmp R,trivial⟩ (to':=[(0,_),(1,_)]) ⟨R,R,trivial⟩ ?_ ?_ R R R (.inl R)
      · rfl
      · rfl
theorem findNM {cells:List (Cell (TNode TMark TSwell))} {i g:Int} (hn:lookC cells i g=none) (hlen:cells.length<4294967296) (cap held vis:Int):SCon Tryz.prog 138 [SV.p 0 0,SV.agg [.i i,.i g]] [(0,blk 0 [.nv 1,.nv 2,.i cap,.i held,.i vis] 201),(1,lrow 1 195 fCM 31 cells)] (SV.raw (.pointer none)) [(0,blk 0 [.nv 1,.nv 2,.i cap,.i held,.i vis] 201),(1,lrow 1 195 fCM 31 cells)] []:=by
  refine spec_of [(0,_),(1,_)] [(0,_),(1,_)] 48 Tryz.func138 R Tryz.ntmps138 R R R R (fun β W F=>?_)
  refine G.seq<|G.rg<|K.box Y 103 _ g0 R R R R R R<|K.as R R<|K.nil<|At.ns<|G.seq ?_
  rcases Bool.eq_false_or_eq_true (decide (i<0)) with h1 | h1
  ·
    refine G.rd mixed<|K.fieldAddr Y g0 R t119 R R<|K.load1 Y g0 R R t3 R R<|K.bin g0 R R (fun _=>R) R<|K.mv R R<|K.sk R R h1 R<|K.sk R R h1 R<|K.sk R R h1 R<|K.sk R R h1 R<|K.sk R R h1 R<|K.sk R R h1 R<|K.sk R R h1 R<|K.sk R R h1 R<|K.pickT g0 R (h1) R R<|K.nil<|And.intro (by kernel_rfl)<|At.next<|G.cond R (fun h2=>?_) (fun h2=>?_)
    ·
      refine G.seq<|G.rg<|K.as R R<|K.nil<|At.next<|G.ret<|At.over_ret<|At.done Y [(.tmp 4,.c _)] R ⟨.tmp R,trivial⟩ (to':=[(0,_),(1,_)]) ⟨R,R,trivial⟩ ?_ ?_ R R R (.inl R)
      · rfl
      · rfl
    · cases h2
  ·
    refine G.rd mixed<|K.fieldAddr Y g0 R t119 R R<|K.load1 Y g0 R R t3 R R<|K.bin g0 R R (fun _=>R) R<|K.mv R R<|K.fieldAddr Y (g1 R R h1) R t119 R R<|K.load1 Y (g1 R R h1) R R t3 R R<|K.move (.inl R) (g1 R R h1) R R<|K.nilCheck (g1 R R h1) R R<|K.fieldAddr Y (g1 R R h1) R t201 R R<|K.load1 Y (g1 R R h1) R R t199 R R<|K.lenL (lrowV 1 195 fCM 31 _) (lrowV_is fCM_len (by decide)) (g1 R R h1) R R Tryz.underlying199 R<|K.bin (g1 R R h1) R R (fun _=>R) R<|K.pickF g0 R (h1) R R<|K.nil<|And.intro (by kernel_rfl)<|At.next<|G.cond R (fun h3=>?_) (fun h3=>?_)
    ·
      refine G.seq<|G.rg<|K.as R R<|K.nil<|At.next<|G.ret<|At.over_ret<|At.done Y [(.tmp 4,.c _)] R ⟨.tmp R,trivial⟩ (to':=[(0,_),(1,_)]) ⟨R,R,trivial⟩ ?_ ?_ R R R (.inl R)
      · rfl
      · rfl
    ·
      refine G.skip<|At.ns ?_
      obtain ⟨c,hg⟩ : ∃ c,cells[i.toNat]? = some c:=⟨_,List.getElem?_eq_getElem (by simp [IntKind.wrap_i64] at * <;> omega)⟩
      refine G.rd mixed<|K.mv R R<|K.nilCheck g0 R R<|K.fieldAddr Y g0 R t201 R R<|K.load1 Y g0 R R t199 R R<|K.fieldAddr Y g0 R t119 R R<|K.load1 Y g0 R R t3 R R<|K.idxL (lrowV 1 195 fCM 31 _) i.toNat (lrowV_is fCM_len (by decide)) hg (by simp [IntKind.wrap_i64] at * <;> omega) g0 R R R Tryz.underlying199 el199.size_run R<|K.as R R<|K.nil<|And.intro (by kernel_rfl)<|At.ns<|G.seq ?_
      rcases Bool.eq_false_or_eq_true (!c.live) with h4 | h4
      ·
        refine G.rd mixed<|K.mv R R<|K.nilL (lrowV 1 195 fCM 31 _) i.toNat 0 (lrowV_is fCM_len (by decide)) hg g0 R R R R<|K.fieldL Y (lrowV 1 195 fCM 31 _) i.toNat 0 30 (lrowV_is fCM_len (by decide)) hg g0 R R t195 R R R R<|K.load1L Y (lrowV 1 195 fCM 31 _) i.toNat 30 (lrowV_is fCM_len (by decide)) hg g0 R R t4 R R<|K.un g0 R (fun _=>R) R<|K.mv R R<|K.sk R R h4 R<|K.sk R R h4 R<|K.sk R R h4 R<|K.sk R R h4 R<|K.sk R R h4 R<|K.sk R R h4 R<|K.sk R R h4 R<|K.pickT g0 R (h4) R R<|K.nil<|And.intro (by kernel_rfl)<|At.next<|G.cond R (fun h5=>?_) (fun h5=>?_)
        ·
          refine G.seq<|G.rg<|K.as R R<|K.nil<|At.next<|G.ret<|At.over_ret<|At.done Y [(.tmp 4,.c _)] R ⟨.tmp R,trivial⟩ (to':=[(0,_),(1,_)]) ⟨R,R,trivial⟩ ?_ ?_ R R R (.inl R)
          · rfl
          · rfl
        · cases h5
      ·
        refine G.rd mixed<|K.mv R R<|K.nilL (lrowV 1 195 fCM 31 _) i.toNat 0 (lrowV_is fCM_len (by decide)) hg g0 R R R R<|K.fieldL Y (lrowV 1 195 fCM 31 _) i.toNat 0 30 (lrowV_is fCM_len (by decide)) hg g0 R R t195 R R R R<|K.load1L Y (lrowV 1 195 fCM 31 _) i.toNat 30 (lrowV_is fCM_len (by decide)) hg g0 R R t4 R R<|K.un g0 R (fun _=>R) R<|K.mv R R<|K.move (.inl R) (g1 R R h4) R R<|K.nilL (lrowV 1 195 fCM 31 _) i.toNat 0 (lrowV_is fCM_len (by decide)) hg (g1 R R h4) R R R R<|K.fieldL Y (lrowV 1 195 fCM 31 _) i.toNat 0 29 (lrowV_is fCM_len (by decide)) hg (g1 R R h4) R R t195 R R R R<|K.load1L Y (lrowV 1 195 fCM 31 _) i.toNat 29 (lrowV_is fCM_len (by decide)) hg (g1 R R h4) R R t3 R R<|K.fieldAddr Y (g1 R R h4) R t119 R R<|K.load1 Y (g1 R R h4) R R t3 R R<|K.bin (g1 R R h4) R R (fun _=>R) R<|K.pickF g0 R (h4) R R<|K.nil<|And.intro (by kernel_rfl)<|At.next<|G.cond R (fun h6=>?_) (fun h6=>?_)
        ·
          refine G.seq<|G.rg<|K.as R R<|K.nil<|At.next<|G.ret<|At.over_ret<|At.done Y [(.tmp 4,.c _)] R ⟨.tmp R,trivial⟩ (to':=[(0,_),(1,_)]) ⟨R,R,trivial⟩ ?_ ?_ R R R (.inl R)
          · rfl
          · rfl
        · exact absurd h6 (by simp_all [lookC])
theorem findSM' {cells : List (Cell (TNode TMark TSwell))} {n : Nat} {c : Cell (TNode TMark TSwell)} (hg : cells[n]? = some c) (hl : c.live = true) (hlen : cells.length < 4294967296) (cap held vis : Int) (k0 k1 k2 : Nat) : SCon Tryz.prog 138 [SV.p k0 0, SV.agg [.i (n : Int), .i c.gen]]
    [(k0,blk k0 [.nv k1,.nv k2,.i cap,.i held,.i vis] 201),(k1,lrow k1 195 fCM 31 cells)] (.a (.c (.rp k1 (n*31)))) [(k0,blk k0 [.nv k1,.nv k2,.i cap,.i held,.i (IntKind.i64.wrap (vis+1))] 201),(k1,lrow k1 195 fCM 31 cells)] [] :=
  SCon.ren (rn [(0,k0),(1,k1),(2,k2)]) (findSM hg hl hlen cap held vis) ⟨blk_ren R R,lrow_ren R,trivial⟩ ⟨blk_ren R R,lrow_ren R,trivial⟩ (by simp) (by simp)
theorem findNM' {cells : List (Cell (TNode TMark TSwell))} {i g : Int} (hn : lookC cells i g = none) (hlen : cells.length < 4294967296) (cap held vis : Int) (k0 k1 k2 : Nat) : SCon Tryz.prog 138 [SV.p k0 0, SV.agg [.i i, .i g]]
    [(k0,blk k0 [.nv k1,.nv k2,.i cap,.i held,.i vis] 201),(k1,lrow k1 195 fCM 31 cells)] (SV.raw (.pointer none)) [(k0,blk k0 [.nv k1,.nv k2,.i cap,.i held,.i vis] 201),(k1,lrow k1 195 fCM 31 cells)] [] :=
  SCon.ren (rn [(0,k0),(1,k1),(2,k2)]) (findNM hn hlen cap held vis) ⟨blk_ren R R,lrow_ren R,trivial⟩ ⟨blk_ren R R,lrow_ren R,trivial⟩ (by simp) (by simp)
theorem getM (p:Pool (TNode TMark TSwell)) (i g:Int) (hlen:p.cells.length<4294967296) (hfree:p.free.length<4294967296):SCon Tryz.prog 113 [SV.p 0 0,SV.agg [.i i,.i g]] [(0,poolM 0 p)] (.tup [avM (p.get zNodeM i g).1.1,.c (.b (p.get zNodeM i g).1.2)]) [(0,poolM 0 (p.get zNodeM i g).2)] []:=by
  obtain ⟨cells,free,cap,held,vis⟩:=p
  simp only at hlen hfree
  cases hlk:lookC cells i g with
  | none =>
    refine spec_of [(0,_),(1,_)] [(0,_)] 18 Tryz.func113 R Tryz.ntmps113 R R R R (fun β W F=>?_)
    refine G.ent [(0,_)] [(0,_),(21,_),(22,_)] [21,22] (pool_open (by decide) (by decide) (by decide)) ⟨R,trivial⟩ R R R R<|G.seq<|G.rg<|K.box Y 103 _ g0 R R R R R R<|K.alloc Y 104 _ g0 t140 R R R R R<|K.as R R<|K.nil<|At.nr<|K.mv R R<|K.loadS Y _ g0 R R t119 R R R<|K.call0 [(.func 138,_),((.tmp 8),_),((.tmp 9),_)] (findNM' hlk hlen _ _ _ 0 21 22) (toFn_func (cf 138 R) R) g0 ⟨R,R,R,trivial⟩ ⟨R,R,trivial⟩ R R R R R R<|K.as R R<|K.nil<|At.ns<|G.seq<|G.rg<|K.mv R R<|K.bin g0 R R (pn_eql_none Tryz.underlying192) R<|K.nil<|At.next<|G.cond R (fun h1=>?_) (fun h1=>?_)
    ·
      refine G.seq<|G.rg<|K.alloc Y 107 _ g0 t140 R R R R R<|K.nil<|At.nr<|K.loadS Y _ g0 R R t140 R R R<|K.store Y _ g0 R R R t140 R R R R R<|K.as R R<|K.nil<|At.next<|G.ret<|At.over_ret<|At.ent [(0,_),(21,_),(22,_)] [(0,poolM 0 ⟨_,_,_,_,_⟩)] [] (pool_close _ _ _ _ _) ⟨R,R,R,trivial⟩ R R R R<|At.done Y [(.cell 4 140,.agg [_,_,_,_,_,_,_,_,_,_,_,_,_,_,_,_,_,_,_,_,_,_,_,_,_,_,_,_,_]),(.tmp 5,.c _)] R ⟨.st R R t140 R R,.tmp R,trivial⟩ (to':=[(0,_)]) ⟨R,trivial⟩ ?_ ?_ R R R (.inl R)
      · simp only [Pool.get,hlk]
      · simp only [Pool.get,hlk];rfl
    · cases h1
  | some c =>
    obtain ⟨n,rfl,hg,hl,rfl⟩:=lookC_some hlk
    refine spec_of [(0,_),(1,_)] [(0,_)] 18 Tryz.func113 R Tryz.ntmps113 R R R R (fun β W F=>?_)
    refine G.ent [(0,_)] [(0,_),(21,_),(22,_)] [21,22] (pool_open (by decide) (by decide) (by decide)) ⟨R,trivial⟩ R R R R<|G.seq<|G.rg<|K.box Y 103 _ g0 R R R R R R<|K.alloc Y 104 _ g0 t140 R R R R R<|K.as R R<|K.nil<|At.nr<|K.mv R R<|K.loadS Y _ g0 R R t119 R R R<|K.call0 [(.func 138,_),((.tmp 8),_),((.tmp 9),_)] (findSM' hg hl hlen _ _ _ 0 21 22) (toFn_func (cf 138 R) R) g0 ⟨R,R,R,trivial⟩ ⟨R,R,trivial⟩ R R R R R R<|K.as R R<|K.nil<|At.ns<|G.seq<|G.rg<|K.mv R R<|K.eqnilL (lrowV 21 195 fCM 31 _) n 0 (B:=false) (lrowV_is fCM_len (by decide)) hg g0 R R R R (pn_eql_some Tryz.underlying192) R<|K.nil<|At.next<|G.cond R (fun h1=>?_) (fun h1=>?_)
    · cases h1
    ·
      refine G.skip<|At.nr<|K.mv R R<|K.nilL (lrowV 21 195 fCM 31 _) n 0 (lrowV_is fCM_len (by decide)) hg g0 R R R R<|K.fieldL Y (lrowV 21 195 fCM 31 _) n 0 0 (lrowV_is fCM_len (by decide)) hg g0 R R t195 R R R R<|K.loadSL Y (lrowV 21 195 fCM 31 _) n 0 [_,_,_,_,_,_,_,_,_,_,_,_,_,_,_,_,_,_,_,_,_,_,_,_,_,_,_,_,_] [_,_,_,_,_,_,_,_,_,_,_,_,_,_,_,_,_,_,_,_,_,_,_,_,_,_,_,_,_] (lrowV_is fCM_len (by decide)) hg g0 R R t140 R R R R R<|K.store Y _ g0 R R R t140 R R R R R<|K.as R R<|K.nil<|At.next<|G.ret<|At.ent [(0,_),(21,_),(22,_)] [(0,poolM 0 ⟨_,_,_,_,_⟩)] [] (pool_close _ _ _ _ _) ⟨R,R,R,trivial⟩ R R R R<|At.done Y [(.cell 4 140,.agg [_,_,_,_,_,_,_,_,_,_,_,_,_,_,_,_,_,_,_,_,_,_,_,_,_,_,_,_,_]),(.tmp 5,.c _)] R ⟨.st R R t140 R R,.tmp R,trivial⟩ (to':=[(0,_)]) ⟨R,trivial⟩ ?_ ?_ R R R (.inl R)
      · simp [Pool.get,hlk,Pool.hit]
      · simp only [Pool.get,hlk];rfl
theorem setM (p:Pool (TNode TMark TSwell)) (i g:Int) (v:(TNode TMark TSwell)) (hlen:p.cells.length<4294967296) (hfree:p.free.length<4294967296):SCon Tryz.prog 164 [SV.p 0 0,SV.agg [.i i,.i g],.a (avM v)] [(0,poolM 0 p)] (SV.b (p.set i g v).1) [(0,poolM 0 (p.set i g v).2)] []:=by
  obtain ⟨cells,free,cap,held,vis⟩:=p
  simp only at hlen hfree
  cases hlk:lookC cells i g with
  | none =>
    refine spec_of [(0,_),(1,_),(2,_)] [(0,_)] 19 Tryz.func164 R Tryz.ntmps164 R R R R (fun β W F=>?_)
    refine G.ent [(0,_)] [(0,_),(21,_),(22,_)] [21,22] (pool_open (by decide) (by decide) (by decide)) ⟨R,trivial⟩ R R R R<|G.seq<|G.rg<|K.box Y 104 _ g0 R R R R R R<|K.box Y 105 _ g0 R R R R R R<|K.as R R<|K.nil<|At.nr<|K.mv R R<|K.loadS Y _ g0 R R t119 R R R<|K.call0 [(.func 138,_),((.tmp 8),_),((.tmp 9),_)] (findNM' hlk hlen _ _ _ 0 21 22) (toFn_func (cf 138 R) R) g0 ⟨R,R,R,trivial⟩ ⟨R,R,trivial⟩ R R R R R R<|K.as R R<|K.nil<|At.ns<|G.seq<|G.rg<|K.mv R R<|K.bin g0 R R (pn_neq_none Tryz.underlying192) R<|K.nil<|At.next<|G.cond R (fun h1=>?_) (fun h1=>?_)
    · cases h1
    ·
      refine G.skip<|At.nr<|K.mv R R<|K.bin g0 R R (pn_neq_none Tryz.underlying192) R<|K.as R R<|K.nil<|At.next<|G.ret<|At.ent [(0,_),(21,_),(22,_)] [(0,poolM 0 ⟨_,_,_,_,_⟩)] [] (pool_close _ _ _ _ _) ⟨R,R,R,trivial⟩ R R R R<|At.done Y [(.tmp 6,.c _)] R ⟨.tmp R,trivial⟩ (to':=[(0,_)]) ⟨R,trivial⟩ ?_ ?_ R R R (.inl R)
      · simp only [Pool.set,hlk]
      · simp only [Pool.set,hlk];rfl
  | some c =>
    obtain ⟨n,rfl,hg,hl,rfl⟩:=lookC_some hlk
    refine spec_of [(0,_),(1,_),(2,_)] [(0,_)] 19 Tryz.func164 R Tryz.ntmps164 R R R R (fun β W F=>?_)
    refine G.ent [(0,_)] [(0,_),(21,_),(22,_)] [21,22] (pool_open (by decide) (by decide) (by decide)) ⟨R,trivial⟩ R R R R<|G.seq<|G.rg<|K.box Y 104 _ g0 R R R R R R<|K.box Y 105 _ g0 R R R R R R<|K.as R R<|K.nil<|At.nr<|K.mv R R<|K.loadS Y _ g0 R R t119 R R R<|K.call0 [(.func 138,_),((.tmp 8),_),((.tmp 9),_)] (findSM' hg hl hlen _ _ _ 0 21 22) (toFn_func (cf 138 R) R) g0 ⟨R,R,R,trivial⟩ ⟨R,R,trivial⟩ R R R R R R<|K.as R R<|K.nil<|At.ns<|G.seq<|G.rg<|K.mv R R<|K.eqnilL (lrowV 21 195 fCM 31 _) n 0 (B:=true) (lrowV_is fCM_len (by decide)) hg g0 R R R R (pn_neq_some Tryz.underlying192) R<|K.nil<|At.next<|G.cond R (fun h1=>?_) (fun h1=>?_)
    ·
      refine G.rg<|K.mv R R<|K.loadS Y _ g0 R R t140 R R R<|K.nilL (lrowV 21 195 fCM 31 _) n 0 (lrowV_is fCM_len (by decide)) hg g0 R R R R<|K.fieldL Y (lrowV 21 195 fCM 31 _) n 0 0 (lrowV_is fCM_len (by decide)) hg g0 R R t195 R R R R<|K.storeL Y n 0 [_,_,_,_,_,_,_,_,_,_,_,_,_,_,_,_,_,_,_,_,_,_,_,_,_,_,_,_,_] { c with v:=v } fCM_len (by decide) hg g0 R R R t140 R R R R R R<|K.nil<|At.nr<|K.mv R R<|K.eqnilL (lrowV 21 195 fCM 31 _) n 0 (B:=true) (lrowV_is fCM_len (by decide)) (set_get hg) g0 R R R R (pn_neq_some Tryz.underlying192) R<|K.as R R<|K.nil<|At.next<|G.ret<|At.ent [(0,_),(21,_),(22,_)] [(0,poolM 0 ⟨_,_,_,_,_⟩)] [] (pool_close _ _ _ _ _) ⟨R,R,R,trivial⟩ R R R R<|At.done Y [(.tmp 6,.c _)] R ⟨.tmp R,trivial⟩ (to':=[(0,_)]) ⟨R,trivial⟩ ?_ ?_ R R R (.inl R)
      · simp [Pool.set,hlk,Pool.hit]
      · simp only [Pool.set,hlk];rfl
    · cases h1
theorem dropM (p:Pool (TNode TMark TSwell)) (i g:Int) (hlen:p.cells.length<4294967296) (hfree:p.free.length<4294967296):SCon Tryz.prog 119 [SV.p 0 0,SV.agg [.i i,.i g]] [(0,poolM 0 p)] (.tup [avM (p.drop zNodeM i g).1.1,.c (.b (p.drop zNodeM i g).1.2)]) [(0,poolM 0 (p.drop zNodeM i g).2)] []:=by
  obtain ⟨cells,free,cap,held,vis⟩:=p
  simp only at hlen hfree
  cases hlk:lookC cells i g with
  | none =>
    refine spec_of [(0,_),(1,_)] [(0,_)] 50 Tryz.func119 R Tryz.ntmps119 R R R R (fun β W F=>?_)
    refine G.ent [(0,_)] [(0,_),(21,_),(22,_)] [21,22] (pool_open (by decide) (by decide) (by decide)) ⟨R,trivial⟩ R R R R<|G.seq<|G.rg<|K.box Y 103 _ g0 R R R R R R<|K.alloc Y 104 _ g0 t140 R R R R R<|K.as R R<|K.nil<|At.nr<|K.mv R R<|K.loadS Y _ g0 R R t119 R R R<|K.call0 [(.func 138,_),((.tmp 9),_),((.tmp 10),_)] (findNM' hlk hlen _ _ _ 0 21 22) (toFn_func (cf 138 R) R) g0 ⟨R,R,R,trivial⟩ ⟨R,R,trivial⟩ R R R R R R<|K.as R R<|K.nil<|At.ns<|G.seq<|G.rg<|K.mv R R<|K.bin g0 R R (pn_eql_none Tryz.underlying192) R<|K.nil<|At.next<|G.cond R (fun h1=>?_) (fun h1=>?_)
    ·
      refine G.seq<|G.rg<|K.alloc Y 107 _ g0 t140 R R R R R<|K.nil<|At.nr<|K.loadS Y _ g0 R R t140 R R R<|K.store Y _ g0 R R R t140 R R R R R<|K.as R R<|K.nil<|At.next<|G.ret<|At.over_ret<|At.ent [(0,_),(21,_),(22,_)] [(0,poolM 0 ⟨_,_,_,_,_⟩)] [] (pool_close _ _ _ _ _) ⟨R,R,R,trivial⟩ R R R R<|At.done Y [(.cell 4 140,.agg [_,_,_,_,_,_,_,_,_,_,_,_,_,_,_,_,_,_,_,_,_,_,_,_,_,_,_,_,_]),(.tmp 5,.c _)] R ⟨.st R R t140 R R,.tmp R,trivial⟩ (to':=[(0,_)]) ⟨R,trivial⟩ ?_ ?_ R R R (.inl R)
      · simp only [Pool.drop,hlk]
      · simp only [Pool.drop,hlk];rfl
    · cases h1
  | some c =>
    obtain ⟨n,rfl,hg,hl,rfl⟩:=lookC_some hlk
    refine spec_of [(0,_),(1,_)] [(0,_)] 50 Tryz.func119 R Tryz.ntmps119 R R R R (fun β W F=>?_)
    refine G.ent [(0,_)] [(0,_),(21,_),(22,_)] [21,22] (pool_open (by decide) (by decide) (by decide)) ⟨R,trivial⟩ R R R R<|G.seq<|G.rg<|K.box Y 103 _ g0 R R R R R R<|K.alloc Y 104 _ g0 t140 R R R R R<|K.as R R<|K.nil<|At.nr<|K.mv R R<|K.loadS Y _ g0 R R t119 R R R<|K.call0 [(.func 138,_),((.tmp 9),_),((.tmp 10),_)] (findSM' hg hl hlen _ _ _ 0 21 22) (toFn_func (cf 138 R) R) g0 ⟨R,R,R,trivial⟩ ⟨R,R,trivial⟩ R R R R R R<|K.as R R<|K.nil<|At.ns<|G.seq<|G.rg<|K.mv R R<|K.eqnilL (lrowV 21 195 fCM 31 _) n 0 (B:=false) (lrowV_is fCM_len (by decide)) hg g0 R R R R (pn_eql_some Tryz.underlying192) R<|K.nil<|At.next<|G.cond R (fun h1=>?_) (fun h1=>?_)
    · cases h1
    ·
      refine G.skip<|At.nr<|K.mv R R<|K.nilL (lrowV 21 195 fCM 31 _) n 0 (lrowV_is fCM_len (by decide)) hg g0 R R R R<|K.fieldL Y (lrowV 21 195 fCM 31 _) n 0 0 (lrowV_is fCM_len (by decide)) hg g0 R R t195 R R R R<|K.loadSL Y (lrowV 21 195 fCM 31 _) n 0 [_,_,_,_,_,_,_,_,_,_,_,_,_,_,_,_,_,_,_,_,_,_,_,_,_,_,_,_,_] [_,_,_,_,_,_,_,_,_,_,_,_,_,_,_,_,_,_,_,_,_,_,_,_,_,_,_,_,_] (lrowV_is fCM_len (by decide)) hg g0 R R t140 R R R R R<|K.alloc Y 108 _ g0 t140 R R R R R<|K.store Y _ g0 R R R t140 R R R R R<|K.nil<|At.nr<|K.mv R R<|K.mv R R<|K.nilL (lrowV 21 195 fCM 31 _) n 0 (lrowV_is fCM_len (by decide)) hg g0 R R R R<|K.fieldL Y (lrowV 21 195 fCM 31 _) n 0 29 (lrowV_is fCM_len (by decide)) hg g0 R R t195 R R R R<|K.load1L Y (lrowV 21 195 fCM 31 _) n 29 (lrowV_is fCM_len (by decide)) hg g0 R R t3 R R<|K.build Y [(1,_)] [_,_,_,_,_,_,_,_,_,_,_,_,_,_,_,_,_,_,_,_,_,_,_,_,_,_,_,_,_,_,_] [((.tmp 23),_)] g0 (AllE.spec ⟨R,trivial⟩) R R t195 R R<|K.nilL (lrowV 21 195 fCM 31 _) n 0 (lrowV_is fCM_len (by decide)) hg g0 R R R R<|K.storeL Y n 0 [_,_,_,_,_,_,_,_,_,_,_,_,_,_,_,_,_,_,_,_,_,_,_,_,_,_,_,_,_,_,_] ⟨zNodeM,c.gen,false⟩ fCM_len (by decide) hg g0 R R R t195 R R R R R R<|K.nil<|At.nr<|K.mv R R<|K.nilCheck g0 R R<|K.fieldAddr Y g0 R t201 R R<|K.load1 Y g0 R R t3 R R<|K.bin g0 R R (fun _=>R) R<|K.nilCheck g0 R R<|K.fieldAddr Y g0 R t201 R R<|K.store Y _ g0 R R R t3 R R R R R<|K.nil<|At.ns<|G.seq<|G.rg<|K.mv R R<|K.nilL (lrowV 21 195 fCM 31 _) n 0 (lrowV_is fCM_len (by decide)) (set_get hg) g0 R R R R<|K.fieldL Y (lrowV 21 195 fCM 31 _) n 0 29 (lrowV_is fCM_len (by decide)) (set_get hg) g0 R R t195 R R R R<|K.load1L Y (lrowV 21 195 fCM 31 _) n 29 (lrowV_is fCM_len (by decide)) (set_get hg) g0 R R t3 R R<|K.bin g0 R R (fun _=>R) R<|K.nil<|At.next<|G.cond R (fun h2=>?_) (fun h2=>?_)
      ·
        refine G.rd mixed<|K.mv R R<|K.mv R R<|K.nilCheck g0 R R<|K.fieldAddr Y g0 R t201 R R<|K.load1 Y g0 R R t161 R R<|K.fieldAddr Y g0 R t119 R R<|K.load1 Y g0 R R t3 R R<|K.buildL Y 145 [(n:Int)] [(0,_)] [((.tmp 44),_)] intE_len g0 (AllE.spec ⟨R,trivial⟩) R R Tryz.underlying161 t3 R R R R R R R R<|K.appendL 146 (lrowV 145 3 intE 1 _) _ el161 (lrowV_is intE_len (by decide)) intE_one g0 R R R R R (by simp only [List.length_cons,List.length_nil,maxLen];omega) (by simp only [List.length_cons,List.length_nil,maxLen];omega) R R R R R R<|K.nilCheck g0 R R<|K.fieldAddr Y g0 R t201 R R<|K.store Y _ g0 R R R t161 R R R R R<|K.nil<|And.intro (by kernel_rfl)<|At.nr<|K.loadS Y _ g0 R R t140 R R R<|K.store Y _ g0 R R R t140 R R R R R<|K.as R R<|K.nil<|At.next<|G.ret<|At.ent [(0,_),(21,_),(146,_)] [(0,poolM 0 ⟨_,_,_,_,_⟩)] [] (pool_close _ _ _ _ _) ⟨R,R,R,trivial⟩ R R R R<|At.done Y [(.cell 4 140,.agg [_,_,_,_,_,_,_,_,_,_,_,_,_,_,_,_,_,_,_,_,_,_,_,_,_,_,_,_,_]),(.tmp 5,.c _)] R ⟨.st R R t140 R R,.tmp R,trivial⟩ (to':=[(0,_)]) ⟨R,trivial⟩ ?_ ?_ R R R (.inl R)
        · simp [Pool.drop,hlk,Pool.hit,h2]
        · simp only [Pool.drop,hlk];rfl
      ·
        refine G.skip<|At.nr<|K.loadS Y _ g0 R R t140 R R R<|K.store Y _ g0 R R R t140 R R R R R<|K.as R R<|K.nil<|At.next<|G.ret<|At.ent [(0,_),(21,_),(22,_)] [(0,poolM 0 ⟨_,_,_,_,_⟩)] [] (pool_close _ _ _ _ _) ⟨R,R,R,trivial⟩ R R R R<|At.done Y [(.cell 4 140,.agg [_,_,_,_,_,_,_,_,_,_,_,_,_,_,_,_,_,_,_,_,_,_,_,_,_,_,_,_,_]),(.tmp 5,.c _)] R ⟨.st R R t140 R R,.tmp R,trivial⟩ (to':=[(0,_)]) ⟨R,trivial⟩ ?_ ?_ R R R (.inl R)
        · simp [Pool.drop,hlk,Pool.hit,h2]
        · simp only [Pool.drop,hlk];rfl
theorem putFM (p:Pool (TNode TMark TSwell)) (v:(TNode TMark TSwell)) (hh:p.held=p.cap):SCon Tryz.prog 163 [SV.p 0 0,.a (avM v)] [(0,poolM 0 p)] (.tup [.agg [.i 0,.i 0],.c (.b false)]) [(0,poolM 0 p)] []:=by
  obtain ⟨cells,free,cap,held,vis⟩:=p
  simp only at hh
  refine spec_of [(0,_),(1,_)] [(0,_)] 53 Tryz.func163 R Tryz.ntmps163 R R R R (fun β W F=>?_)
  refine G.ent [(0,_)] [(0,_),(21,_),(22,_)] [21,22] (pool_open (by decide) (by decide) (by decide)) ⟨R,trivial⟩ R R R R<|G.seq<|G.rg<|K.box Y 103 _ g0 R R R R R R<|K.alloc Y 104 _ g0 t119 R R R R R<|K.as R R<|K.nil<|At.ns<|G.seq<|G.rd mixed<|K.mv R R<|K.nilCheck g0 R R<|K.fieldAddr Y g0 R t201 R R<|K.load1 Y g0 R R t3 R R<|K.mv R R<|K.nilCheck g0 R R<|K.fieldAddr Y g0 R t201 R R<|K.load1 Y g0 R R t3 R R<|K.bin g0 R R (fun _=>R) R<|K.nil<|And.intro (by kernel_rfl)<|At.next<|G.cond R (fun h1=>?_) (fun h1=>?_)
  ·
    refine G.seq<|G.rg<|K.build Y [] [_,_] [] g0 (AllE.spec trivial) R R t119 R R<|K.store Y _ g0 R R R t119 R R R R R<|K.as R R<|K.nil<|At.next<|G.ret<|At.over_ret<|At.ent [(0,_),(21,_),(22,_)] [(0,poolM 0 ⟨_,_,_,_,_⟩)] [] (pool_close _ _ _ _ _) ⟨R,R,R,trivial⟩ R R R R<|At.done Y [(.cell 4 119,.agg [_,_]),(.tmp 5,.c _)] R ⟨.st R R t119 R R,.tmp R,trivial⟩ (to':=[(0,_)]) ⟨R,trivial⟩ ?_ ?_ R R R (.inl R)
    · rfl
    · rfl
  · exact absurd h1 (by simp [hh])
theorem putTM (p : Pool (TNode TMark TSwell)) (v : (TNode TMark TSwell)) (hh : p.held ≠ p.cap) (hlen : p.cells.length < 4294967296) (hfree : p.free.length < 4294967296) {n : Nat} {c : Cell (TNode TMark TSwell)} (hn : (p.next zNodeM).1 = n) (hg : (p.next zNodeM).2.cells[n]? = some c) : SCon Tryz.prog 163 [SV.p 0 0, .a (avM v)] [(0, poolM 0 p)]
    (.tup [.agg [.i n,.i (IntKind.i64.wrap (c.gen+1))],.c (.b true)]) [(0,poolM 0 ((p.next zNodeM).2.lay n c v))] []:=by
  obtain ⟨cells,free,cap,held,vis⟩:=p
  simp only at hh hlen hfree
  refine spec_of [(0,_),(1,_)] [(0,_)] 53 Tryz.func163 R Tryz.ntmps163 R R R R (fun β W F=>?_)
  refine G.ent [(0,_)] [(0,_),(21,_),(22,_)] [21,22] (pool_open (by decide) (by decide) (by decide)) ⟨R,trivial⟩ R R R R<|G.seq<|G.rg<|K.box Y 103 _ g0 R R R R R R<|K.alloc Y 104 _ g0 t119 R R R R R<|K.as R R<|K.nil<|At.ns<|G.seq<|G.rd mixed<|K.mv R R<|K.nilCheck g0 R R<|K.fieldAddr Y g0 R t201 R R<|K.load1 Y g0 R R t3 R R<|K.mv R R<|K.nilCheck g0 R R<|K.fieldAddr Y g0 R t201 R R<|K.load1 Y g0 R R t3 R R<|K.bin g0 R R (fun _=>R) R<|K.nil<|And.intro (by kernel_rfl)<|At.next<|G.cond R (fun h1=>?_) (fun h1=>?_)
  · exact absurd h1 (by simp [hh])
  ·
    refine G.skip<|At.ns<|G.ent [(0,_),(21,_),(22,_)] [(0,poolM 0 ⟨_,_,_,_,_⟩)] [] (pool_close _ _ _ _ _) ⟨R,R,R,trivial⟩ R R R R<|G.rg<|K.mv R R<|K.call0 [(.func 175,_),((.tmp 18),_)] (nextM _ hlen hfree) (toFn_func (cf 175 R) R) g0 ⟨R,R,trivial⟩ ⟨R,trivial⟩ R R R R R R<|K.as R R<|K.nil<|At.ns<|G.ent [(0,_)] [(0,_),(23,_),(24,_)] [23,24] (pool_open (by decide) (by decide) (by decide)) ⟨R,trivial⟩ R R R R<|G.rg<|K.mv R R<|K.nilCheck g0 R R<|K.fieldAddr Y g0 R t201 R R<|K.load1 Y g0 R R t199 R R<|K.mv R R<|K.idxL (lrowV 23 195 fCM 31 _) n (lrowV_is fCM_len (by decide)) hg hn g0 R R R Tryz.underlying199 el199.size_run R<|K.as R R<|K.nil<|At.nr<|K.mv R R<|K.mv R R<|K.loadS Y _ g0 R R t140 R R R<|K.nilL (lrowV 23 195 fCM 31 _) n 0 (lrowV_is fCM_len (by decide)) hg g0 R R R R<|K.fieldL Y (lrowV 23 195 fCM 31 _) n 0 0 (lrowV_is fCM_len (by decide)) hg g0 R R t195 R R R R<|K.storeL Y n 0 [_,_,_,_,_,_,_,_,_,_,_,_,_,_,_,_,_,_,_,_,_,_,_,_,_,_,_,_,_] { c with v:=v } fCM_len (by decide) hg g0 R R R t140 R R R R R R<|K.nilL (lrowV 23 195 fCM 31 _) n 0 (lrowV_is fCM_len (by decide)) (set_get hg) g0 R R R R<|K.fieldL Y (lrowV 23 195 fCM 31 _) n 0 30 (lrowV_is fCM_len (by decide)) (set_get hg) g0 R R t195 R R R R<|K.storeL Y n 30 [_] ⟨v,c.gen,true⟩ fCM_len (by decide) (set_get hg) g0 R R R t4 R R R R R R<|K.nil<|At.nr<|K.mv R R<|K.nilL (lrowV 23 195 fCM 31 _) n 0 (lrowV_is fCM_len (by decide)) (set_get (set_get hg)) g0 R R R R<|K.fieldL Y (lrowV 23 195 fCM 31 _) n 0 29 (lrowV_is fCM_len (by decide)) (set_get (set_get hg)) g0 R R t195 R R R R<|K.load1L Y (lrowV 23 195 fCM 31 _) n 29 (lrowV_is fCM_len (by decide)) (set_get (set_get hg)) g0 R R t3 R R<|K.bin g0 R R (fun _=>R) R<|K.nilL (lrowV 23 195 fCM 31 _) n 0 (lrowV_is fCM_len (by decide)) (set_get (set_get hg)) g0 R R R R<|K.fieldL Y (lrowV 23 195 fCM 31 _) n 0 29 (lrowV_is fCM_len (by decide)) (set_get (set_get hg)) g0 R R t195 R R R R<|K.storeL Y n 29 [_] ⟨v,IntKind.i64.wrap (c.gen+1),true⟩ fCM_len (by decide) (set_get (set_get hg)) g0 R R R t3 R R R R R R<|K.nil<|At.nr<|K.mv R R<|K.nilCheck g0 R R<|K.fieldAddr Y g0 R t201 R R<|K.load1 Y g0 R R t3 R R<|K.bin g0 R R (fun _=>R) R<|K.nilCheck g0 R R<|K.fieldAddr Y g0 R t201 R R<|K.store Y _ g0 R R R t3 R R R R R<|K.nil<|At.nr<|K.mv R R<|K.mv R R<|K.nilL (lrowV 23 195 fCM 31 _) n 0 (lrowV_is fCM_len (by decide)) (set_get (set_get (set_get hg))) g0 R R R R<|K.fieldL Y (lrowV 23 195 fCM 31 _) n 0 29 (lrowV_is fCM_len (by decide)) (set_get (set_get (set_get hg))) g0 R R t195 R R R R<|K.load1L Y (lrowV 23 195 fCM 31 _) n 29 (lrowV_is fCM_len (by decide)) (set_get (set_get (set_get hg))) g0 R R t3 R R<|K.build Y [(0,_),(1,_)] [_,_] [((.tmp 47),_),((.tmp 51),_)] g0 (AllE.spec ⟨R,R,trivial⟩) R R t119 R R<|K.store Y _ g0 R R R t119 R R R R R<|K.as R R<|K.nil<|At.next<|G.ret<|At.ent [(0,_),(23,_),(24,_)] [(0,poolM 0 ⟨_,_,_,_,_⟩)] [] (pool_close _ _ _ _ _) ⟨R,R,R,trivial⟩ R R R R<|At.done Y [(.cell 4 119,.agg [_,_]),(.tmp 5,.c _)] R ⟨.st R R t119 R R,.tmp R,trivial⟩ (to':=[(0,_)]) ⟨R,trivial⟩ ?_ ?_ R R R (.inl R)
    · simp [Pool.lay]
    · rw [hn];rfl
theorem newM_ (c:Int):SCon Tryz.prog 159 [SV.i c] [] (SV.p 107 0) [(107,poolM 107 ⟨[],[],capOf c,0,0⟩)] [107]:=by
  refine spec_of [(0,_)] [] 8 Tryz.func159 R Tryz.ntmps159 R R R R (fun β W F=>?_)
  refine G.seq<|G.rg<|K.as R R<|K.nil<|At.nr<|K.mv R R<|K.bi2 g0 R R (fun _ _=>R) R<|K.bi2 g0 R R (fun _ _=>R) R<|K.build Y [(2,_)] [_,_,_,_,_] [((.tmp 5),_)] g0 (AllE.spec ⟨R,trivial⟩) R R t201 R R<|K.box Y 107 _ g0 R R R R R R<|K.as R R<|K.nil<|At.next<|G.ret<|At.ent [(107,_)] [(107,poolM 107 ⟨_,_,_,_,_⟩)] [] (pool_nil _ _ _) ⟨R,trivial⟩ R R R R<|At.done Y [(.tmp 2,.c _)] R ⟨.tmp R,trivial⟩ (to':=[(107,_)]) ⟨R,trivial⟩ ?_ ?_ R R R (.inl R)
  · rfl
  · rfl
theorem newM (c:Int) (k:Nat):SCon Tryz.prog 159 [SV.i c] [] (SV.p k 0) [(k,poolM k ⟨[],[],capOf c,0,0⟩)] [k] :=
  SCon.ren (rn [(107,k)]) (newM_ c) trivial ⟨pool_ren R,trivial⟩ (by simp) (by intro j hj hn;simp [SV.ks,Av.ks,Cl.ks,pool] at hj hn;exact absurd hj hn)
theorem putM_ {N:Nat} (p:Pool (TNode TMark TSwell)) (v:(TNode TMark TSwell)) (h:PoolOk N p) (hN:N<4294967296):SCon Tryz.prog 163 [SV.p 0 0,.a (avM v)] [(0,poolM 0 p)] (.tup [.agg [.i (p.put zNodeM v).1.1.1,.i (p.put zNodeM v).1.1.2],.c (.b (p.put zNodeM v).1.2)]) [(0,poolM 0 (p.put zNodeM v).2)] []:=by
  by_cases hh:p.held=p.cap
  · have e:p.put zNodeM v=(((0,0),false),p):=by unfold Pool.put;rw [if_pos hh]
    rw [e];exact putFM p v hh
  · obtain ⟨h1,h2,c,hc⟩:=h.next (z:=zNodeM)
    have e:p.put zNodeM v=((((p.next zNodeM).1,IntKind.i64.wrap (c.gen+1)),true),(p.next zNodeM).2.lay (p.next zNodeM).1.toNat c v):=by unfold Pool.put;rw [if_neg hh,hc]
    have h3:(p.next zNodeM).1=((p.next zNodeM).1.toNat:Int):=by omega
    have:=putTM p v hh (Nat.lt_of_le_of_lt h.cells hN) (Nat.lt_of_le_of_lt h.free hN) h3 hc
    rw [← h3] at this
    rw [e];exact this
theorem putM {N:Nat} (p:Pool (TNode TMark TSwell)) (v:(TNode TMark TSwell)) (h:PoolOk N p) (hN:N<4294967296) (k:Nat):SCon Tryz.prog 163 [SV.p k 0,.a (avM v)] [(k,poolM k p)] (.tup [.agg [.i (p.put zNodeM v).1.1.1,.i (p.put zNodeM v).1.1.2],.c (.b (p.put zNodeM v).1.2)]) [(k,poolM k (p.put zNodeM v).2)] [] :=
  SCon.ren (rn [(0,k)]) (putM_ p v h hN) ⟨pool_ren R,trivial⟩ ⟨pool_ren R,trivial⟩ (by simp) (by simp)
theorem getM' {N:Nat} (p:Pool (TNode TMark TSwell)) (i g:Int) (h:PoolOk N p) (hN:N<4294967296) (k:Nat):SCon Tryz.prog 113 [SV.p k 0,SV.agg [.i i,.i g]] [(k,poolM k p)] (.tup [avM (p.get zNodeM i g).1.1,.c (.b (p.get zNodeM i g).1.2)]) [(k,poolM k (p.get zNodeM i g).2)] [] :=
  SCon.ren (rn [(0,k)]) (getM p i g (Nat.lt_of_le_of_lt h.cells hN) (Nat.lt_of_le_of_lt h.free hN)) ⟨pool_ren R,trivial⟩ ⟨pool_ren R,trivial⟩ (by simp) (by simp)
theorem setM' {N:Nat} (p:Pool (TNode TMark TSwell)) (i g:Int) (v:(TNode TMark TSwell)) (h:PoolOk N p) (hN:N<4294967296) (k:Nat):SCon Tryz.prog 164 [SV.p k 0,SV.agg [.i i,.i g],.a (avM v)] [(k,poolM k p)] (SV.b (p.set i g v).1) [(k,poolM k (p.set i g v).2)] [] :=
  SCon.ren (rn [(0,k)]) (setM p i g v (Nat.lt_of_le_of_lt h.cells hN) (Nat.lt_of_le_of_lt h.free hN)) ⟨pool_ren R,trivial⟩ ⟨pool_ren R,trivial⟩ (by simp) (by simp)
theorem dropM' {N:Nat} (p:Pool (TNode TMark TSwell)) (i g:Int) (h:PoolOk N p) (hN:N<4294967296) (k:Nat):SCon Tryz.prog 119 [SV.p k 0,SV.agg [.i i,.i g]] [(k,poolM k p)] (.tup [avM (p.drop zNodeM i g).1.1,.c (.b (p.drop zNodeM i g).1.2)]) [(k,poolM k (p.drop zNodeM i g).2)] [] :=
  SCon.ren (rn [(0,k)]) (dropM p i g (Nat.lt_of_le_of_lt h.cells hN) (Nat.lt_of_le_of_lt h.free hN)) ⟨pool_ren R,trivial⟩ ⟨pool_ren R,trivial⟩ (by simp) (by simp)
end Go.Proofs.YtgjbibabegabnaaGreat
