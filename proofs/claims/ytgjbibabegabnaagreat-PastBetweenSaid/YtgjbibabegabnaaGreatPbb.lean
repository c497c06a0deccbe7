/- My texts that the proof of PastBetween rests on, part 2: a calculus of walks, the walks, and the plain law. -/
import Derived.OpenShut
import Derived.ChangeArms
import Derived.ChangeOld
import Derived.DataReads
import Derived.Lib.SmallJoins
import Derived.LaidEqlPtr
import Derived.Laws.BytesArg
import Derived.Laws.Strings
import Derived.Lib.AppendZerosOnto
import Derived.Laws.MakeOwn
import Derived.Laws.Cover3
import Derived.KernelRfl
import Derived.Test.YtgjbibabegabnaaGreatProg
import Derived.Test.YtgjbibabegabnaaGreatPba
set_option linter.unusedVariables false
set_option linter.unusedSimpArgs false
namespace Go.Proofs.YtgjbibabegabnaaGreat.Sx
open Go
def kindsGo (P:Program) (rec:TypeId→Option (List (Option IntKind))):Nat→List Field→Option (List (Option IntKind))
  | _, [] => some []
  | o, f :: r => match f.offset == o, rec f.type with
    | true, some l => match (P.cellsOf f.type == l.length : Bool), kindsGo P rec (o + l.length) r with
      | true, some m => some (l ++ m)
      | _, _ => none
    | _, _ => none
def kindsOf (P:Program):Nat→TypeId→Option (List (Option IntKind))
  | 0, _ => none
  | d + 1, T => match P.underlying T with
    | some (.int k) => some [some k]
    | some .bool => some [none]
    | some (.struct fs) => match kindsGo P (kindsOf P d) 0 fs.toList with
      | some l => if P.cellsOf T == l.length then some l else none
      | none => none
    | _ => none
def okKind:Option IntKind→Value→Prop
  | some k, v => ∃ n, v = .int k n ∧ (Lit.int k n).wf = true
  | none, v => ∃ b, v = .bool b
def okKinds:List (Option IntKind)→List Value→Prop
  | [], [] => True
  | k :: ks, v :: vs => okKind k v ∧ okKinds ks vs
  | _, _ => False
theorem okKinds_append {ks ks':List (Option IntKind)} : ∀ {a b:List Value},okKinds ks a→okKinds ks' b→okKinds (ks++ks') (a++b):=by
  induction ks with
  | nil => intro a b h h'; cases a with
    | nil => exact h'
    | cons _ _ => exact h.elim
  | cons k ks ih => intro a b h h'; cases a with
    | nil => exact h.elim
    | cons v vs => exact ⟨h.1, ih h.2 h'⟩
section
variable {H:Type} {enc:TypeId×Value→H} {P:Program} {w:World} {base:Nat} {spare:Nat→Bool} {held:Bool}
theorem trod_kinds : ∀ (d fuel:Nat) (t:TypeId) (cs:List Value) (x:DataW H×List MemPlace) (ks:List (Option IntKind)),kindsOf P d t=some ks→DataW.trod enc P w base spare held fuel t cs=some x→okKinds ks cs
  | 0, _, _, _, _, _, h, _ => by cases h
  | d + 1, fuel, t, cs, x, ks, hk, h => by
    simp only [kindsOf] at hk
    split at hk
    · rename_i k hu
      cases hk
      obtain ⟨n,rfl,_,hw⟩:=DataW.trod_int hu h
      exact ⟨⟨n,rfl,hw⟩,trivial⟩
    · rename_i hu
      cases hk
      obtain ⟨b,rfl,_⟩:=DataW.trod_bool hu h
      exact ⟨⟨b,rfl⟩,trivial⟩
    · rename_i fs hu
      split at hk
      · rename_i l hl
        split at hk
        · rename_i hc
          cases hk
          obtain ⟨xs,n,_,_,hlen,hxl,hxs⟩:=DataW.trod_struct hu h
          have key : ∀ (fl:List Field) (o:Nat) (l:List (Option IntKind)),(∀ f∈fl,∃ y,DataW.trod enc P w base spare held n f.type ((cs.drop f.offset).take (P.cellsOf f.type))=some y)→kindsGo P (kindsOf P d) o fl=some l→o+l.length=cs.length→okKinds l (cs.drop o):=by
            intro fl
            induction fl with
            | nil =>
              intro o l _ h1 h3
              cases h1
              have:cs.drop o=[]:=List.drop_eq_nil_of_le (by simp at h3;omega)
              rw [this];trivial
            | cons f fl ih =>
              intro o l h2 h1 h3
              simp only [kindsGo] at h1
              split at h1
              · rename_i l1 hb hl1
                split at h1
                · rename_i m hm1 hm
                  cases h1
                  simp only [beq_iff_eq] at hb hm1
                  obtain ⟨y,hy⟩:=h2 f List.mem_cons_self
                  have h4:=trod_kinds d n f.type _ y l1 hl1 hy
                  have h5:=ih (o+l1.length) m (fun f hf=>h2 f (List.mem_cons_of_mem _ hf)) hm (by rw [List.length_append] at h3;omega)
                  rw [hb,hm1] at h4
                  have e:cs.drop o=(cs.drop o).take l1.length++cs.drop (o+l1.length):=by rw [← List.drop_drop,List.take_append_drop]
                  rw [e]
                  exact okKinds_append h4 h5
                · cases h1
              · cases h1
          have hc':P.cellsOf t=ks.length:=by simpa using hc
          have:=key fs.toList 0 ks (fun f hf=>by
            obtain ⟨i,hi⟩:=List.getElem?_of_mem hf
            have hi':fs[i]? = some f:=by simpa using hi
            rw [hxs i f hi']
            have:i<xs.length:=by rw [hxl];exact (Array.getElem?_eq_some_iff.1 hi').1
            exact ⟨_,List.getElem?_eq_getElem this⟩) hl (by omega)
          simpa using this
        · cases hk
      · cases hk
    · cases hk
theorem open_list {α : Type} {f : α → List Value} {s : Nat} {Q : α → Prop} {t e : TypeId} {v : Value} {d : DataW H} {p : List MemPlace} {D : Nat} {ks : List (Option IntKind)} (hu : P.underlying t = some (.slice e)) (hk : kindsOf P D e = some ks) (hs : P.cellsOf e = s) (hpos : 0 < s) (hf : ∀ c, (f c).length = s)
    (hdec : ∀ cs,okKinds ks cs→∃ x,cs=f x∧Q x) (hv:v.cells = #[v]) (h:DataW.Trod enc P w base spare held t v d p) :
    ∃ (l:List α) (b o:Nat),(∀ x∈l,Q x)∧(∃ ao cap,v=.slice ao l.length cap∧l.length≤cap∧(0<l.length→ao=some ⟨b,o,none⟩))∧(0<l.length→b<w.heap.size)∧(∀ j u,(l.flatMap f)[j]? = some u→w.cell? ⟨b,o+j,none⟩=some u)∧l.length≤maxLen:=by
  obtain ⟨fuel,hf'⟩:=h
  rw [hv] at hf'
  rcases DataW.trod_slice hu hf' with ⟨h1,_⟩ | ⟨a,len,cap,elems,rest,n,_,h1,_,hb,hlc,hcm,hel,hcells,_,_⟩
  · simp at h1
    subst h1
    exact ⟨[],0,0,fun x hx=>(by cases hx),⟨none,0,rfl,Nat.le_refl _,fun h=>(by simp at h)⟩,fun h=>(by simp at h),fun j u hj=>(by simp at hj),by simp⟩
  · simp at h1
    subst h1
    have each : ∀ i,i<len→∃ x,Q x∧w.cells? base (a.add (i*s)) s=some (f x):=by
      intro i hi
      have h2:=hcells i hi
      rw [List.getElem?_eq_getElem (by omega)] at h2
      rw [hs] at h2
      cases hc:w.cells? base (a.add (i*s)) s with
      | none => rw [hc] at h2; cases h2
      | some cs =>
        rw [hc] at h2
        obtain ⟨x,hx,hq⟩:=hdec cs (trod_kinds D n e cs _ ks hk h2)
        exact ⟨x,hq,by rw [hx]⟩
    have list : ∀ m,m≤len→∃ l:List α,l.length=m∧(∀ x∈l,Q x)∧∀ i x,l[i]? = some x→w.cells? base (a.add (i*s)) s=some (f x):=by
      intro m
      induction m with
      | zero => intro _; exact ⟨[], rfl, fun x hx => (by cases hx), fun i x hx => (by simp at hx)⟩
      | succ m ih =>
        intro hm
        obtain ⟨l,h1,h2,h3⟩:=ih (by omega)
        obtain ⟨x,hq,hx⟩:=each m (by omega)
        refine ⟨l++[x],by simp [h1],fun y hy=>?_,fun i y hy=>?_⟩
        · rcases List.mem_append.1 hy with hy | hy
          · exact h2 y hy
          · simp at hy;subst hy;exact hq
        · rw [List.getElem?_append] at hy
          split at hy
          · exact h3 i y hy
          · rename_i hge
            have:i - l.length=0:=by
              have:=(List.getElem?_eq_some_iff.1 hy).1
              simp at this;omega
            rw [this] at hy
            simp at hy;subst hy
            have:i=m:=by omega
            rw [this];exact hx
    obtain ⟨l,hl,hQ,hx⟩:=list len (Nat.le_refl _)
    subst hl
    by_cases h0:0<l.length
    · have hx0:=hx 0 l[0] (List.getElem?_eq_getElem h0)
      have hadd0:a.add (0*s)=a:=by simp [Addr.add]
      rw [hadd0] at hx0
      have hcell:=World.cells?_some hx0
      have hspot:a.spot=none:=by
        have hlen0:=hf l[0]
        have h4:=hcell.2.2 0 (by omega)
        have ha0:a.add 0=a:=by simp [Addr.add]
        rw [ha0] at h4
        unfold World.cell? at h4
        split at h4
        · split at h4
          · rw [List.getElem?_eq_getElem (by omega)] at h4;cases h4
          · rename_i hns;simpa using hns
        · rw [List.getElem?_eq_getElem (by omega)] at h4;cases h4
      obtain ⟨b,o,sp⟩:=a
      simp only at hspot
      subst hspot
      refine ⟨l,b,o,hQ,⟨_,cap,rfl,hlc,fun _=>rfl⟩,fun _=>World.cells?_block hx0 hpos,fun j u hj=>?_,by omega⟩
      have hjl:j<l.length*s:=by rw [← chunk_len hf];exact (List.getElem?_eq_some_iff.1 hj).1
      have hi:j / s<l.length:=by rw [Nat.div_lt_iff_lt_mul hpos];exact hjl
      have hxi:=hx (j / s) l[j / s] (List.getElem?_eq_getElem hi)
      have hc2:=World.cells?_some hxi
      have hm:=Nat.mod_lt j hpos
      have h5:=hc2.2.2 (j % s) hm
      have hjd:j / s*s+j % s=j:=by rw [Nat.mul_comm];exact Nat.div_add_mod j s
      have hadd:((⟨b,o,none⟩:Addr).add (j / s*s)).add (j % s)=⟨b,o+j,none⟩:=by
        unfold Addr.add
        split <;> split <;> simp_all <;> omega
      rw [hadd] at h5
      rw [h5]
      have:=chunk_get hf (List.getElem?_eq_getElem hi:l[j / s]? = _) (o:=j % s) (v:=(f l[j / s])[j % s]'(by rw [hf];exact hm)) (List.getElem?_eq_getElem _)
      rw [hjd,hj] at this
      rw [List.getElem?_eq_getElem (by rw [hf];exact hm)]
      exact this.symm
    · have h0':l=[]:=List.eq_nil_of_length_eq_zero (by omega)
      subst h0'
      exact ⟨[],0,0,fun x hx=>(by cases hx),⟨_,cap,rfl,Nat.zero_le _,fun h=>(by simp at h)⟩,fun h=>(by simp at h),fun j u hj=>(by simp at hj),by simp⟩
end
def kwf (k:IntKind) (n:Int):Prop:=(Lit.int k n).wf=true
theorem okK1 {k:Option IntKind} {cs:List Value} (h:okKinds [k] cs) : ∃ v,cs=[v]∧okKind k v:=by
  cases cs with
  | nil => exact h.elim
  | cons v r => cases r with
    | nil => exact ⟨v, rfl, h.1⟩
    | cons _ _ => exact h.2.elim
theorem okKc {k:Option IntKind} {ks:List (Option IntKind)} {cs:List Value} (h:okKinds (k::ks) cs) : ∃ v r,cs=v::r∧okKind k v∧okKinds ks r:=by
  cases cs with
  | nil => exact h.elim
  | cons v r => exact ⟨v, r, rfl, h.1, h.2⟩
end Go.Proofs.YtgjbibabegabnaaGreat.Sx
namespace Go.Proofs.YtgjbibabegabnaaGreat.Sx
open Go
def rdRes (S:Foot) (W0:World):Res where
  holds w F:=(∀ b,F b↔S b)∧∀ b,S b→b<w.heap.size∧w.heap[b]? = W0.heap[b]?
  loc:=by
    intro w w' F hw h
    refine ⟨h.1,fun b hb=>?_⟩
    have h1:=h.2 b hb
    have h2:=hw b ((h.1 b).2 hb)
    refine ⟨?_,h2.trans h1.2⟩
    rw [Array.getElem?_eq_getElem h1.1] at h2
    exact (Array.getElem?_eq_some_iff.1 h2).1
  lt:=by
    intro w F b h hb
    exact (h.2 b ((h.1 b).1 hb)).1
def rd (S:Foot) (W0:World):Tok where
  ks:=[]
  r _:=rdRes S W0
  sup _:=rfl
structure LAt {α:Type} (S:Foot) (W0:World) (v:Value) (b o:Nat) (e:α→List Value) (s:Nat) (l:List α):Prop where
  len : ∀ c,(e c).length=s
  pos:0<s
  sl : ∃ ao cap,v=.slice ao l.length cap∧l.length≤cap∧(0<l.length→ao=some ⟨b,o,none⟩)
  inn:0<l.length→S b
  cells : ∀ j u,(l.flatMap e)[j]? = some u→W0.cell? ⟨b,o+j,none⟩=some u
def LArg {α:Type} (S:Foot) (W0:World) (v:Value) (e:α→List Value) (s:Nat) (l:List α):Prop:=∃ b o,LAt S W0 v b o e s l
def rV {α:Type} (k:Nat) (S:Foot) (W0:World) (v:Value) (b o:Nat) (e:α→List Value) (s:Nat) (l:List α):Vw:=⟨k,rd S W0,.v v,fun off=>.v (ptr b (o+off)),l.length,s,l.flatMap e⟩
structure Vw.IsC {α:Type} (V:Vw) (e:α→List Value) (l:List α):Prop where
  is:V.Is e l
  cap : ∀ (β:Env) (w:World) (F:Foot),(V.t.r β).holds w F→∀ ao m cap,V.s.den β=.slice ao m cap→m≤cap
section
variable {α:Type} {e:α→List Value} {s:Nat} {l:List α} {S:Foot} {W0:World} {v:Value} {b o:Nat}
theorem LAt.is (h:LAt S W0 v b o e s l) (k:Nat):(rV k S W0 v b o e s l).Is e l:=by
  refine ⟨rfl,rfl,h.len,h.pos,?_⟩
  intro β w F hw
  obtain ⟨ao,cap,h1,h2,h3⟩:=h.sl
  refine ⟨chunk_len h.len l,ao,cap,h1,fun hm=>⟨b,o,h3 hm,fun _ _=>rfl,fun j u hj=>?_⟩⟩
  have h4:=hw.2 b (h.inn hm)
  have:=h.cells j u hj
  simp only [World.cell?] at this ⊢
  rw [h4.2];exact this
theorem LAt.isC (h:LAt S W0 v b o e s l) (k:Nat):(rV k S W0 v b o e s l).IsC e l:=by
  refine ⟨h.is k,fun β w F _ ao m cap hd=>?_⟩
  obtain ⟨ao',cap',h1,h2,h3⟩:=h.sl
  have:Value.slice ao m cap=.slice ao' l.length cap':=hd.symm.trans h1
  cases this;exact h2
theorem LAt.part (h:LAt S W0 v b o e s l) {lo hi:Nat} (h1:lo≤hi) (h2:hi≤l.length):LAt S W0 (partOf lo hi s v) b (o+lo*s) e s ((l.drop lo).take (hi - lo)):=by
  obtain ⟨ao,cap,h3,h4,h5⟩:=h.sl
  have hl:((l.drop lo).take (hi - lo)).length=hi - lo:=by rw [List.length_take,List.length_drop,Nat.min_eq_left (by omega)]
  refine ⟨h.len,h.pos,⟨if cap=lo then ao else ao.map (·.add (lo*s)),cap - lo,?_,?_,?_⟩,fun hm=>h.inn (by omega),fun j u hj=>?_⟩
  · rw [h3,partOf,hl]
  · rw [hl];omega
  · intro hm
    rw [hl] at hm
    rw [if_neg (by omega),h5 (by omega)]
    unfold Addr.add
    simp only [Option.map_some]
    split
    · rename_i h0;rw [h0];simp
    · rfl
  · rw [← chunk_take h.len,← chunk_drop h.len,List.getElem?_take,List.getElem?_drop] at hj
    split at hj
    · have:=h.cells _ u hj
      rw [Nat.add_assoc];exact this
    · cases hj
theorem lrowV_isC {k:Nat} {T:TypeId} (hf : ∀ c,(e c).length=s) (hs:0<s):(lrowV k T e s l).IsC e l:=by
  refine ⟨lrowV_is hf hs,fun β w F hw ao m cap hd=>?_⟩
  have h2:w.ownsRow 0 T s (one1 (β k).v) l.length (l.flatMap e):=hw.2
  have hd':one1 (β k).v=.slice ao m cap:=hd
  rw [hd'] at h2
  rcases h2.2 with ⟨h0,h4⟩ | ⟨g,cap',cur,hv,_,_,hc,_⟩
  · cases h0;omega
  · cases hv;exact hc
theorem Vw.inn {V:Vw} (hV:V.Ok) {β:Env} {w:World} {F:Foot} (h:(V.t.r β).holds w F) {b o cap:Nat} (hd:V.s.den β=.slice (some ⟨b,o,none⟩) V.m cap) (hm:0<V.m) (hs:0<V.size):F b:=by
  refine Classical.byContradiction fun hn=>?_
  have h1:(V.t.r β).holds (w.setRow b #[]) F:=(V.t.r β).loc (fun k hk=>setRow_other w b k _ (fun e=>hn (e▸hk))) h
  obtain ⟨hx,ao,cap',h2,h3⟩:=hV β _ F h1
  rw [hd] at h2
  cases h2
  obtain ⟨b',o',h4,_,h5⟩:=h3 hm
  cases h4
  have hpos:0<V.xs.length:=by rw [hx];exact Nat.mul_pos hm hs
  have h6:=h5 0 V.xs[0] (List.getElem?_eq_getElem hpos)
  obtain ⟨hx0,ao0,cap0,h20,h30⟩:=hV β w F h
  rw [hd] at h20
  cases h20
  obtain ⟨b1,o1,h41,_,h51⟩:=h30 hm
  cases h41
  have h61:=h51 0 V.xs[0] (List.getElem?_eq_getElem hpos)
  simp only [World.cell?] at h61 h6
  cases hc:w.heap[b]? with
  | none => rw [hc] at h61; cases h61
  | some ob =>
    rw [hc] at h61
    cases ob with
    | cells cur T tg =>
      have:=setRow_heap w b _ #[] _ _ hc
      rw [this] at h6
      simp at h6
    | _ => cases h61
theorem Star_mem : ∀ {L:List Res} {w:World} {F:Foot} {r:Res},Star L w F→r∈L→∃ F1:Foot,(∀ b,F1 b→F b)∧r.holds w F1
  | r0 :: L, w, F, r, ⟨F1, F2, e, d, hr, hs⟩, hm => by
    rcases List.mem_cons.1 hm with rfl | hm
    · exact ⟨F1,fun b hb=>(e b).2 (.inl hb),hr⟩
    · obtain ⟨G,h1,h2⟩:=Star_mem hs hm
      exact ⟨G,fun b hb=>(e b).2 (.inr (h1 b hb)),h2⟩
theorem Vw.IsC.larg {V:Vw} (h:V.IsC e l) {tr:List (Nat×Tok)} (hm : ∃ k,(k,V.t)∈tr) {β:Env} {w:World} {S:Foot} (hs:Star (tr.map fun p=>p.2.r β) w S):LArg S w (V.s.den β) e V.size l:=by
  obtain ⟨k,hm⟩:=hm
  obtain ⟨F1,hsub,h1⟩:=Star_mem hs (List.mem_map_of_mem (f:=fun p:Nat×Tok=>p.2.r β) hm)
  obtain ⟨hx,ao,cap,h2,h3⟩:=h.is.ok β w F1 h1
  have hc:=h.cap β w F1 h1 ao V.m cap h2
  have hm':=h.is.m
  by_cases h0:0<V.m
  · obtain ⟨b,o,rfl,hp,hcl⟩:=h3 h0
    exact ⟨b,o,h.is.len,h.is.pos,⟨_,cap,by rw [h2,hm'],by omega,fun _=>rfl⟩,fun _=>hsub b (Vw.inn h.is.ok h1 h2 h0 h.is.pos),fun j u hj=>hcl j u (by rw [h.is.xs];exact hj)⟩
  · have hl:l=[]:=List.eq_nil_of_length_eq_zero (by omega)
    subst hl
    exact ⟨0,0,h.is.len,h.is.pos,⟨_,cap,by rw [h2,hm'],by simp,fun h=>by simp at h⟩,fun h=>by simp at h,fun j u hj=>by simp at hj⟩
end
theorem Star_append {A B:List Res} : ∀ {w:World} {F:Foot},Star (A++B) w F↔∃ F1 F2:Foot,(∀ b,F b↔F1 b∨F2 b)∧(∀ b,F1 b→¬ F2 b)∧Star A w F1∧Star B w F2:=by
  induction A with
  | nil =>
    intro w F
    constructor
    · intro h;exact ⟨fun _=>False,F,fun b=>by simp,fun _ h=>h.elim,fun _ h=>h,h⟩
    · rintro ⟨F1,F2,e,d,h1,h2⟩
      have:F=F2:=funext fun b=>propext (by rw [e b];exact ⟨fun h=>h.elim (fun h'=>absurd h' (h1 b)) id,.inr⟩)
      rw [this];exact h2
  | cons r A ih =>
    intro w F
    constructor
    · rintro ⟨G1,G2,e,d,hr,hs⟩
      obtain ⟨F1,F2,e',d',h1,h2⟩:=ih.1 hs
      refine ⟨fun b=>G1 b∨F1 b,F2,fun b=>by rw [e b,e' b,or_assoc],?_,⟨G1,F1,fun b=>Iff.rfl,fun b hb hf=>d b hb ((e' b).2 (.inl hf)),hr,h1⟩,h2⟩
      rintro b (hb | hb) hf
      · exact d b hb ((e' b).2 (.inr hf))
      · exact d' b hb hf
    · rintro ⟨F1,F2,e,d,⟨G1,G2,e',d',hr,h1⟩,h2⟩
      refine ⟨G1,fun b=>G2 b∨F2 b,fun b=>by rw [e b,e' b,or_assoc],?_,hr,ih.2 ⟨G2,F2,fun b=>Iff.rfl,fun b hb hf=>d b ((e' b).2 (.inr hb)) hf,h1,h2⟩⟩
      rintro b hb (hf | hf)
      · exact d' b hb hf
      · exact d b ((e' b).2 (.inl hb)) hf
section
variable {P:Program} {n:Nat} {ops:Array Oper} {rest:List Oper} {fs fs':FL} {L L':TL} {ss:List Step}
theorem Run.callV {d : Nat} {c : Call} {ty : TypeId} {pos : String} {after : Array Edge} {g : Option (Nat × Bool)} {gr : FL} {f : FuncId} {args : List SV} {ret : SV} {fr : List Nat} (l : List (Operand × SV)) (tr ti to : List (Nat × Tok)) (args' : Env → List SV)
    (ha : ∀ β,(args' β).map (SV.den β)=args.map (SV.den β))
    (hs : ∀ (β:Env) (w:World) (S:Foot),Star (tr.map fun p=>p.2.r β) w S→SCon P f (args' β) ((0,rd S w)::ti) ret ((0,rd S w)::to) fr)
    (hc:ToFn P c ty l f args) (hg:Gd ops ⟨some d,.call c,ty,pos,after,g⟩ fs gr) (hev : ∀ p∈l,ev fs p.1=some p.2)
    (htk : ∀ p∈tr++ti,lkT L p.1=some p.2) (hnd:((tr++ti).map (·.1)).Nodup) (hnd':((tr++to).map (·.1)).Nodup) (hsub : ∀ p∈ti,p.1∈to.map (·.1)) (hout : ∀ p∈to,p.1∈ti.map (·.1)∨lkT L p.1=none)
    (hfr:frB fr fs L=true) (hn:Nat.blt d n=true)
    (h:Run P n ops rest ((d,ret)::fs) (to.map (fun p=>(p.1,some p.2))++L) ss fs' L'):Run P n ops (⟨some d,.call c,ty,pos,after,g⟩::rest) fs L (⟨gr++opds l,some d,ret,tr,ti,to,fr⟩::ss) fs' L':=by
  obtain ⟨f1,f2,f3⟩:=frB_spec hfr
  refine Run.cons ?_ ?_ ?_ (fun j=>?_) h
  · intro β a w G K Q hrs hsz hst hK
    have hw:=hg.wanted hrs hsz
    unfold opW Oper.wp
    rw [if_pos hw]
    have h1:=hc β a.eval w (opds_eval hg hev hrs)
    simp only [execOp]
    rw [h1,Oper.upon_enter]
    rw [List.map_append] at hst
    obtain ⟨S,F2,e,dj,hS,hT⟩:=Star_append.1 hst
    have hin:Star (((0,rd S w)::ti).map fun p=>p.2.r β) w G:=⟨S,F2,e,dj,⟨fun b=>Iff.rfl,fun b hb=>⟨hS.lt hb,rfl⟩⟩,hT⟩
    have hcall:=hs β w S hS β w G hin
    rw [ha] at hcall
    refine hcall.mono (fun e' w' he=>?_)
    obtain ⟨β',hb,rfl,F',h2,h3,h4⟩:=he
    obtain ⟨S',F3,eF,dF,hS',hT'⟩:=h2
    have hS2:Star (tr.map fun p=>p.2.r β') w' S:=by
      have:(tr.map fun p=>p.2.r β')=tr.map fun p=>p.2.r β:=List.map_congr_left (fun p hp=>(p.2.sup (fun k hk=>hb k (f3 p.1 p.2 (htk p (List.mem_append_left _ hp)) k hk))))
      rw [this]
      exact hS.loc (fun b hb=>(hS'.2 b hb).2)
    refine hK β' w' F' hb ?_ h3 h4
    rw [List.map_append]
    have eS : ∀ b,S' b↔S b:=hS'.1
    exact Star_append.2 ⟨S,F3,fun b=>by rw [eF b,eS b],fun b h1 h2=>dF b ((eS b).2 h1) h2,hS2,hT'⟩
  · refine ⟨fun t z hz=>?_,fun d' hd'=>?_,htk,hnd,hnd',hout,f1,f2,fun j t hj _=>f3 j t hj⟩
    · rw [lk_append] at hz
      cases hx':lk gr t with
      | some z' => rw [hx'] at hz; simp at hz; subst hz; exact hg.fs hx'
      | none => rw [hx'] at hz; simp at hz; exact opds_fs hev hz
    · simp at hd';subst hd'
      rw [Nat.blt_eq] at hn
      exact hn
  · simp only [Step.outF,lk_cons]
  · rw [Step.outM_eq]
    have e1 : ∀ (to:List (Nat×Tok)),lkT (to.map (fun p=>(p.1,some p.2))++L) j=(lkP to j).or (lkT L j):=by
      intro to
      induction to with
      | nil => simp [lkP]
      | cons p to ih =>
        rw [List.map_cons,List.cons_append,lkT_cons]
        simp only [upd,lkP]
        split <;> simp [ih]
    rw [e1]
    cases hp:lkP to j with
    | some x => rfl
    | none =>
      simp only [Option.none_or]
      rw [if_neg]
      intro hm
      obtain ⟨p,hp',rfl⟩:=List.mem_map.1 hm
      obtain ⟨q,hq,e⟩:=List.mem_map.1 (hsub p hp')
      have : ∀ l:List (Nat×Tok),q∈l→lkP l p.1≠none:=by
        intro l
        induction l with
        | nil => intro h; cases h
        | cons r l ih =>
          intro h
          simp only [lkP]
          split
          · simp
          · rename_i hne
            rcases List.mem_cons.1 h with rfl | h
            · exact absurd e.symm hne
            · exact ih h
      exact this to hq hp
theorem K.callV {K : List Step → FL → TL → Prop} {d : Nat} {c : Call} {ty : TypeId} {pos : String} {after : Array Edge} {g : Option (Nat × Bool)} {gr : FL} {f : FuncId} {args : List SV} {ret : SV} {fr : List Nat} (l : List (Operand × SV)) (tr ti to : List (Nat × Tok)) (args' : Env → List SV)
    (hs : ∀ (β:Env) (w:World) (S:Foot),Star (tr.map fun p=>p.2.r β) w S→SCon P f (args' β) ((0,rd S w)::ti) ret ((0,rd S w)::to) fr)
    (hc:ToFn P c ty l f args) (hg:Gd ops ⟨some d,.call c,ty,pos,after,g⟩ fs gr) (hev:AllE fs l) (ha : ∀ β,(args' β).map (SV.den β)=args.map (SV.den β))
    (htk:AllT L (tr++ti)) (hnd:ndB ((tr++ti).map (·.1))=true) (hnd':ndB ((tr++to).map (·.1))=true) (hsub:ti.all (fun p=>(to.map (·.1)).contains p.1)=true) (hout:to.all (fun p=>(ti.map (·.1)).contains p.1 || (lkT L p.1).isNone)=true)
    (hfr:frB fr fs L=true) (hn:Nat.blt d n=true)
    (h:RunK P n ops rest ((d,ret)::fs) (to.map (fun p=>(p.1,some p.2))++L) (fun ss fs' L'=>K (⟨gr++opds l,some d,ret,tr,ti,to,fr⟩::ss) fs' L')):RunK P n ops (⟨some d,.call c,ty,pos,after,g⟩::rest) fs L K :=
  RunK.of (fun _ _ _ h=>Run.callV l tr ti to args' ha hs hc hg hev.spec htk.spec (ndB_spec hnd) (ndB_spec hnd') (fun p hp=>by simpa using List.all_eq_true.1 hsub p hp) (fun p hp=>by
    have:=List.all_eq_true.1 hout p hp
    rw [Bool.or_eq_true] at this
    rcases this with h | h
    · exact .inl (by simpa using h)
    · exact .inr (by simpa using h)) hfr hn h) h
theorem Run.skipU {o : Oper} {d : Nat} {j : Nat} {want : Bool} {t : Nat} (hd : o.dst = some d) (hgd : o.guard = some (j, want)) (hdj : (ops[j]?).bind (·.dst) = some t) (hl : lk fs t = some (SV.raw undef)) (hn : Nat.blt d n = true)
    (h:Run P n ops rest ((d,SV.raw undef)::fs) L ss fs' L'):Run P n ops (o::rest) fs L (⟨[(t,SV.raw undef)],some d,SV.raw undef,[],[],[],[]⟩::ss) fs' L':=by
  refine Run.cons ?_ ?_ ?_ (fun k=>?_) h
  · intro β a w G K Q hrs hsz hst hK
    have e1:lk [(t,SV.raw undef)] t=some (SV.raw undef):=by simp [lk]
    have e2:=hrs t _ e1
    have e3:=hsz t (by rw [e1];rfl)
    have hw:Region.wanted o (yielded ops a.tmps)=false:=by
      simp only [Region.wanted,hgd,yielded,hdj,Option.bind_some]
      have e4:a.tmps[t]? = some undef:=by
        have:a.tmps[t]? = some a.tmps[t]:=by simp [e3]
        rw [this]
        simp [Array.getD_eq_getD_getElem?,e3] at e2
        rw [e2];rfl
      rw [e4];cases want <;> rfl
    unfold opW
    rw [hw,hd]
    exact hK β w G (fun _ _=>rfl) hst (fun b hb=>.inl hb) (Mod.refl _ _)
  · refine ⟨fun t' y hy=>?_,fun d' hd'=>?_,fun p hp=>by simp at hp,by simp,by simp,fun p hp=>by simp at hp,fun k hk=>by simp at hk,fun _ _ _ _ _ h=>by simp at h,fun _ _ _ _ _ _ h=>by simp at h⟩
    · have:=lk_mem hy
      simp at this
      obtain ⟨rfl,rfl⟩:=this
      exact hl
    · simp at hd';subst hd'
      rw [Nat.blt_eq] at hn
      exact hn
  · simp only [Step.outF,lk_cons]
  · rfl
theorem K.skipU {K : List Step → FL → TL → Prop} {o : Oper} {d : Nat} {j : Nat} {want : Bool} {t : Nat} (hd : o.dst = some d) (hgd : o.guard = some (j, want)) (hdj : (ops[j]?).bind (·.dst) = some t) (hl : lk fs t = some (SV.raw undef)) (hn : Nat.blt d n = true)
    (h:RunK P n ops rest ((d,SV.raw undef)::fs) L (fun ss fs' L'=>K (⟨[(t,SV.raw undef)],some d,SV.raw undef,[],[],[],[]⟩::ss) fs' L')):RunK P n ops (o::rest) fs L K :=
  RunK.of (fun _ _ _ h=>Run.skipU hd hgd hdj hl hn h) h
theorem Run.partR {α : Type} {e : α → List Value} {s : Nat} {ls : List α} {S : Foot} {W0 : World} {v : Value} {b o : Nat} {d : Nat} (lo' hi' : Nat) {t : TypeId} {x : Operand} {lo hi : Option Operand} {ql qh : List (Operand × SV)} {ty : TypeId} {pos : String} {after : Array Edge} {g : Option (Nat × Bool)} {gr : FL} {el : TypeId} (hI : LAt S W0 v b o e s ls) (hg : Gd ops ⟨some d, .slice t x lo hi none, ty, pos, after, g⟩ fs gr)
    (hx:ev fs x=some (SV.raw v)) (hlo:Bnd fs 0 lo' ql lo) (hhi:Bnd fs ls.length hi' qh hi) (hu:P.underlying t=some (.slice el)) (hsz : ∀ w:World,(sizeOf el).run P w=.ok s w) (hlh:lo'≤hi') (hh:hi'≤ls.length) (hn:Nat.blt d n=true)
    (h:Run P n ops rest ((d,SV.raw (partOf lo' hi' s v))::fs) L ss fs' L'):Run P n ops (⟨some d,.slice t x lo hi none,ty,pos,after,g⟩::rest) fs L (⟨gr++opds ((x,SV.raw v)::(ql++qh)),some d,SV.raw (partOf lo' hi' s v),[],[],[],[]⟩::ss) fs' L' :=
  Run.pure ((x,SV.raw v)::(ql++qh)) (SV.raw (partOf lo' hi' s v)) rfl hg (fun p hp=>by
    rcases List.mem_cons.1 hp with rfl | hp
    · exact hx
    · rcases List.mem_append.1 hp with hp | hp
      · exact hlo.ev p hp
      · exact hhi.ev p hp) hn (fun β ρ w hρ=>by
    have e1:ρ x=v:=hρ (x,SV.raw v) (by simp)
    obtain ⟨lv,hlv,hl'⟩:=hlo.val (fun p hp=>hρ p (List.mem_cons_of_mem _ (List.mem_append_left _ hp)))
    obtain ⟨hv,hhv,hh'⟩:=hhi.val (fun p hp=>hρ p (List.mem_cons_of_mem _ (List.mem_append_right _ hp)))
    obtain ⟨ao,cap,h3,hc,_⟩:=hI.sl
    simp only [execOp,e1,h3,hlv,hhv,Option.map_none]
    rw [run_bind_ok (run_part (P:=P) hu hsz hl' hh' hlh hh hc w)]
    simp only [SV.den,Av.den,Cl.den,partOf,sliced];rfl) h
theorem K.partR {K : List Step → FL → TL → Prop} {α : Type} {e : α → List Value} {s : Nat} {ls : List α} {S : Foot} {W0 : World} {v : Value} {b o : Nat} {d : Nat} (lo' hi' : Nat) {t : TypeId} {x : Operand} {lo hi : Option Operand} {ql qh : List (Operand × SV)} {ty : TypeId} {pos : String} {after : Array Edge} {g : Option (Nat × Bool)} {gr : FL} {el : TypeId} (hI : LAt S W0 v b o e s ls) (hg : Gd ops ⟨some d, .slice t x lo hi none, ty, pos, after, g⟩ fs gr)
    (hx:ev fs x=some (SV.raw v)) (hlo:Bnd fs 0 lo' ql lo) (hhi:Bnd fs ls.length hi' qh hi) (hu:P.underlying t=some (.slice el)) (hsz : ∀ w:World,(sizeOf el).run P w=.ok s w) (hlh:lo'≤hi') (hh:hi'≤ls.length) (hn:Nat.blt d n=true)
    (h:RunK P n ops rest ((d,SV.raw (partOf lo' hi' s v))::fs) L (fun ss fs' L'=>K (⟨gr++opds ((x,SV.raw v)::(ql++qh)),some d,SV.raw (partOf lo' hi' s v),[],[],[],[]⟩::ss) fs' L')):RunK P n ops (⟨some d,.slice t x lo hi none,ty,pos,after,g⟩::rest) fs L K :=
  RunK.of (fun _ _ _ h=>Run.partR lo' hi' hI hg hx hlo hhi hu hsz hlh hh hn h) h
end
def arrB (P:Program) (T len e s:Nat) (zs:List Value):Bool:=match P.underlying T,P.info? e,P.info? T with
  | some (.array l e'), some ie, some it => l == len && e' == e && ie.size == s && (match it.zero with
    | some (.agg a) => a.size == zs.length && (List.range zs.length).all (fun j => match a[j]?, zs[j]? with
      | some (.int k n), some (.int k' n') => k == k' && n == n'
      | some (.bool b), some (.bool b') => b == b'
      | _, _ => false)
    | _ => false)
  | _, _, _ => false
section
variable {P:Program} {n:Nat} {ops:Array Oper} {rest:List Oper} {fs fs':FL} {L L':TL} {ss:List Step}
end
def methB (P:Program) (T:TypeId) (nm:String) (f:FuncId):Bool:=match P.info? T,P.underlying T with
  | some i, some d => (match d with | .pointer _ => false | _ => true) && (match i.methods.find? (·.name == nm) with
    | some m => m.path.isEmpty && (match m.func with | some (g, b) => g == f && !b | none => false)
    | none => false)
  | _, _ => false
theorem meth_of {P:Program} {T:TypeId} {nm:String} {f:FuncId} (h:methB P T nm f=true) (v:Value) (w:World):(method (P.types.size+Made.depth) T v nm).run P w=.ok (f,v) w:=by
  unfold methB at h
  split at h
  · rename_i i d hi hd
    rw [Bool.and_eq_true] at h
    obtain ⟨h1,h2⟩:=h
    split at h2
    · rename_i m hm
      rw [Bool.and_eq_true] at h2
      obtain ⟨h3,h4⟩:=h2
      have hp:m.path.toList=[]:=by simpa using h3
      split at h4
      · rename_i g b hf
        rw [Bool.and_eq_true,beq_iff_eq,Bool.not_eq_true'] at h4
        obtain ⟨rfl,rfl⟩:=h4
        obtain ⟨n,hn⟩ : ∃ n,P.types.size+Made.depth=n+1:=⟨P.types.size+Made.depth - 1,by unfold Made.depth;omega⟩
        rw [hn]
        unfold method
        rw [run_bind_ok (run_info hi w)]
        simp only [hm,hp,follow,hf]
        unfold receiverAt
        simp only [Sem.run_bind,Sem.run_pure,Result.andThen_ok]
        rw [show (underlying T).run P w=.ok d w from run_und hd w]
        simp only [Result.andThen_ok]
        cases d <;> first | rfl | (exfalso;simp at h1;done)
      · cases h4
    · cases h2
  · cases h
def exRes (r:Int→Res):Res where
  holds w F:=∃ v,(r v).holds w F
  loc hw h:=by
    obtain ⟨v,h⟩:=h
    exact ⟨v,(r v).loc hw h⟩
  lt h hb:=by
    obtain ⟨v,h⟩:=h
    exact (r v).lt h hb
def pl {α:Type} (k:Nat) (T Tc Ti s:Nat) (f:Cell α→List Value) (p:Pool α):Tok where
  ks:=[k]
  r β:=exRes fun v=>poolRes (β k).b T Tc Ti s f { p with vis:=v }
  sup h:=by rename_i β β';rw [h k (by simp)]
theorem pl_ren {f:Nat→Nat} {α:Type} {k k' T Tc Ti s:Nat} {e:Cell α→List Value} {p:Pool α} (hk:f k'=k):RenT f (pl k' T Tc Ti s e p) (pl k T Tc Ti s e p):=by
  intro β;subst hk;rfl
theorem SCon.hide {α : Type} {P : Program} {f : FuncId} {args : List SV} {ret : SV} {k T Tc Ti s : Nat} {e : Cell α → List Value} {p p' : Pool α}
    (h : ∀ v,∃ v',SCon P f args [(k,pool k T Tc Ti s e { p with vis:=v })] ret [(k,pool k T Tc Ti s e { p' with vis:=v' })] []):SCon P f args [(k,pl k T Tc Ti s e p)] ret [(k,pl k T Tc Ti s e p')] []:=by
  intro β w F hs
  obtain ⟨v,hv⟩:=Star_one.1 hs
  obtain ⟨v',h1⟩:=h v
  refine (h1 β w F (Star_one.2 hv)).mono fun e' w'=>?_
  rintro ⟨β',hb,he,F',h2,h3,h4⟩
  exact ⟨β',hb,he,F',Star_one.2 ⟨v',Star_one.1 h2⟩,h3,h4⟩
theorem SCon.hideNew {α : Type} {P : Program} {f : FuncId} {args : List SV} {ret : SV} {k T Tc Ti s : Nat} {e : Cell α → List Value} {p : Pool α} {fr : List Nat}
    (h:SCon P f args [] ret [(k,pool k T Tc Ti s e p)] fr):SCon P f args [] ret [(k,pl k T Tc Ti s e p)] fr:=by
  intro β w F hs
  refine (h β w F hs).mono fun e' w'=>?_
  rintro ⟨β',hb,he,F',h2,h3,h4⟩
  exact ⟨β',hb,he,F',Star_one.2 ⟨p.vis,Star_one.1 h2⟩,h3,h4⟩
abbrev w64 (x:Int):Int:=IntKind.i64.wrap x
abbrev gmin (a b:Int):Int:=if b<a then b else a
abbrev gmax (a b:Int):Int:=if b>a then b else a
section
variable {α β:Type} {c:Bool} {A B:Option α} {r:α}
theorem bif_t (H:(bif c then A else B)=some r) (h:c=true):A=some r:=by rw [h] at H;exact H
theorem bif_f (H:(bif c then A else B)=some r) (h:c=false):B=some r:=by rw [h] at H;exact H
theorem grd {p:Prop} [Decidable p] (H:(bif decide p then A else none)=some r):p∧A=some r:=by
  by_cases h:p
  · simp only [h,decide_true,cond_true] at H;exact ⟨h,H⟩
  · simp only [h,decide_false,cond_false] at H;cases H
theorem bnd {o:Option β} {f:β→Option α} (H:o.bind f=some r) : ∃ x,o=some x∧f x=some r:=Option.bind_eq_some_iff.1 H
def atL (l:List β) (i:Int):Option β:=bif decide (i<0) then none else l[i.toNat]?
theorem atL_get {l:List β} {i:Int} {x:β} (h:atL l i=some x):l[i.toNat]? = some x:=by
  unfold atL at h
  by_cases h0:i<0
  · simp [h0] at h
  · simpa [h0] using h
theorem atL_nn {l:List β} {i:Int} {x:β} (h:atL l i=some x):i=((i.toNat:Nat):Int):=by
  unfold atL at h
  by_cases h0:i<0
  · simp [h0] at h
  · omega
end
theorem inj_pairs : ∀ {l:List (Nat×Nat)},(l.map (·.2)).Nodup→∀ {p q:Nat×Nat},p∈l→q∈l→p.2=q.2→p=q
  | x :: l, h, p, q, hp, hq, e => by
    simp only [List.map_cons,List.nodup_cons] at h
    rcases List.mem_cons.1 hp with h1 | h1 <;> rcases List.mem_cons.1 hq with h2 | h2
    · rw [h1,h2]
    · exact absurd (by rw [← h1,e];exact List.mem_map_of_mem h2) h.1
    · exact absurd (by rw [← h2,← e];exact List.mem_map_of_mem h1) h.1
    · exact inj_pairs h.2 h1 h2 e
theorem rn_mem {ρ:List (Nat×Nat)} (hn:ndB (ρ.map (·.1))=true) {p:Nat×Nat} (hp:p∈ρ):rn ρ p.1=p.2:=by
  have key : ∀ {l:List (Nat×Nat)},(l.map (·.1)).Nodup→p∈l→lk l p.1=some p.2:=by
    intro l
    induction l with
    | nil => intro _ h; cases h
    | cons q l ih =>
      intro hn h
      simp only [List.map_cons,List.nodup_cons] at hn
      rcases List.mem_cons.1 h with rfl | h
      · simp [lk]
      · have:q.1≠p.1:=fun e=>hn.1 (by rw [e];exact List.mem_map_of_mem (f:=(·.1)) h)
        have hb:Nat.beq q.1 p.1=false:=by
          cases hb:Nat.beq q.1 p.1 with
          | false => rfl
          | true => exact absurd (Nat.eq_of_beq_eq_true hb) this
        simp only [lk,hb]
        exact ih hn.2 h
  unfold rn
  rw [key (ndB_spec hn) hp]
theorem rn_inj {ρ:List (Nat×Nat)} (hd:ndB (ρ.map (·.2))=true) (hn:ndB (ρ.map (·.1))=true) {j k:Nat} (hj:j∈ρ.map (·.1)) (hk:k∈ρ.map (·.1)) (e:rn ρ j=rn ρ k):j=k:=by
  obtain ⟨p,hp,rfl⟩:=List.mem_map.1 hj
  obtain ⟨q,hq,rfl⟩:=List.mem_map.1 hk
  rw [rn_mem hn hp,rn_mem hn hq] at e
  exact congrArg Prod.fst (inj_pairs (ndB_spec hd) hp hq e)
theorem rn_ks {ρ:List (Nat×Nat)} {ks fr:List Nat} (hd:ndB (ρ.map (·.2))=true) (hn:ndB (ρ.map (·.1))=true) (hk:ks.all (fun k=>(ρ.map (·.1)).contains k)=true) (hf:fr.all (fun k=>(ρ.map (·.1)).contains k)=true) : ∀ k∈ks,k∉fr→rn ρ k∉fr.map (rn ρ):=by
  intro k hkm hkf hm
  obtain ⟨j,hj,e⟩:=List.mem_map.1 hm
  have h1:=List.all_eq_true.1 hk k hkm
  have h2:=List.all_eq_true.1 hf j hj
  simp only [List.contains_iff_mem] at h1 h2
  have:=rn_inj hd hn h2 h1 e
  exact hkf (this▸hj)
theorem rn_nd {ρ:List (Nat×Nat)} {fr:List Nat} (hd:ndB (ρ.map (·.2))=true) (hn:ndB (ρ.map (·.1))=true) (hf:(ndB fr&&fr.all (fun k=>(ρ.map (·.1)).contains k))=true):(fr.map (rn ρ)).Nodup:=by
  rw [Bool.and_eq_true] at hf
  have h0:=ndB_spec hf.1
  have hm : ∀ k∈fr,k∈ρ.map (·.1):=fun k hk=>by
    have:=List.all_eq_true.1 hf.2 k hk
    simpa only [List.contains_iff_mem] using this
  clear hf
  induction fr with
  | nil => simp
  | cons k fr ih =>
    simp only [List.nodup_cons] at h0
    simp only [List.map_cons,List.nodup_cons]
    refine ⟨fun h=>?_,ih h0.2 (fun j hj=>hm j (List.mem_cons_of_mem _ hj))⟩
    obtain ⟨j,hj,e⟩:=List.mem_map.1 h
    have:=rn_inj hd hn (hm j (List.mem_cons_of_mem _ hj)) (hm k List.mem_cons_self) e
    exact h0.1 (this▸hj)
theorem larg_nil {α:Type} {e:α→List Value} {s:Nat} {S:Foot} {W0:World} (hf : ∀ c,(e c).length=s) (hs:0<s):LArg S W0 (.slice none 0 0) e s ([]:List α) :=
  ⟨0,0,hf,hs,⟨none,0,rfl,Nat.le_refl _,fun h=>by simp at h⟩,fun h=>by simp at h,fun j u hj=>by simp at hj⟩
section
variable {α β γ:Type} {f:α→Option γ} {g:β→Option γ} {r:γ}
theorem sum_l {a:α} (H:Sum.elim f g (Sum.inl a)=some r):f a=some r:=H
theorem sum_r {b:β} (H:Sum.elim f g (Sum.inr b)=some r):g b=some r:=H
end
theorem ap_m {a b:Nat} (h:a+b<4294967296):a+b≤maxLen:=by simp only [maxLen];omega
theorem ap_b {a b c:Nat} (h:a+b<4294967296) (hc:c≤32768):(a+b)*c≤140737488355328 :=
  Nat.le_trans (Nat.mul_le_mul (Nat.le_of_lt h) hc) (by decide)
theorem tn_len {b:Int} {n:Nat} (h:b≤(n:Int)):b.toNat≤n:=by omega
section
variable {α:Type} {z:α} {p:Pool α}
theorem get_vis (v i g:Int):(({ p with vis:=v }:Pool α).get z i g).1=(p.get z i g).1∧∃ v',(({ p with vis:=v }:Pool α).get z i g).2={ p with vis:=v' }:=by
  unfold Pool.get
  cases h:lookC p.cells i g with
  | none => exact ⟨rfl, v, rfl⟩
  | some c => exact ⟨rfl, _, rfl⟩
theorem set_vis (v i g:Int) (x:α):(({ p with vis:=v }:Pool α).set i g x).1=(p.set i g x).1∧∃ v',(({ p with vis:=v }:Pool α).set i g x).2={ (p.set i g x).2 with vis:=v' }:=by
  unfold Pool.set
  cases h:lookC p.cells i g with
  | none => exact ⟨rfl, v, rfl⟩
  | some c => exact ⟨rfl, _, rfl⟩
theorem drop_vis (v i g:Int):(({ p with vis:=v }:Pool α).drop z i g).1=(p.drop z i g).1∧∃ v',(({ p with vis:=v }:Pool α).drop z i g).2={ (p.drop z i g).2 with vis:=v' }:=by
  unfold Pool.drop
  cases h:lookC p.cells i g with
  | none => exact ⟨rfl, v, rfl⟩
  | some c => exact ⟨rfl, _, rfl⟩
theorem put_vis (v:Int) (x:α):(({ p with vis:=v }:Pool α).put z x).1=(p.put z x).1∧∃ v',(({ p with vis:=v }:Pool α).put z x).2={ (p.put z x).2 with vis:=v' }:=by
  unfold Pool.put Pool.next
  by_cases h:p.held=p.cap
  · simp only [h,if_true];exact ⟨trivial,v,rfl⟩
  · simp only [h,if_false]
    cases hl:p.free.getLast? with
    | none =>
      simp only
      split
      · exact ⟨rfl,v,rfl⟩
      · exact ⟨rfl,v,rfl⟩
    | some i =>
      simp only
      split
      · exact ⟨rfl,v,rfl⟩
      · exact ⟨rfl,v,rfl⟩
end
def pOk {α:Type} (p:Pool α):Prop:=p.cells.length<4294967295∧p.free.length<4294967295∧∀ i∈p.free,0≤i∧i.toNat<p.cells.length
instance {α:Type} (p:Pool α):Decidable (pOk p):=by unfold pOk;infer_instance
theorem pOk.ok {α:Type} {p:Pool α} (h:pOk p) (v:Int):PoolOk 4294967294 { p with vis:=v }:=⟨by have:=h.1;simp only;omega,by have:=h.2.1;simp only;omega,h.2.2⟩
def pGet {α:Type} (z:α) (p:Pool α) (i g:Int):Option (α×Bool):=bif decide (pOk p) then some (p.get z i g).1 else none
def pSet {α:Type} (p:Pool α) (i g:Int) (v:α):Option (Bool×Pool α):=bif decide (pOk p) then some (p.set i g v) else none
def pPut {α:Type} (z:α) (p:Pool α) (v:α):Option (((Int×Int)×Bool)×Pool α):=bif decide (pOk p) then some (p.put z v) else none
def pDrop {α:Type} (z:α) (p:Pool α) (i g:Int):Option ((α×Bool)×Pool α):=bif decide (pOk p) then some (p.drop z i g) else none
theorem SCon.lawRd {P : Program} {f : FuncId} {args : List SV} {fr : List Nat} {w : World} (h : SCon P f args [(0, rd (fun b => b < w.heap.size) w)] (SV.b true) [(0, rd (fun b => b < w.heap.size) w)] fr) :
    Calls P f (args.map (SV.den noEnv)).toArray w (fun e w'=>e=.returned (.bool true)∧Go.RowKit.Below w.heap.size w w'):=by
  refine (h noEnv w (fun b=>b<w.heap.size) (Star_one.2 ⟨fun b=>Iff.rfl,fun b hb=>⟨hb,rfl⟩⟩)).mono fun e w'=>?_
  rintro ⟨β',_,he,F',hs,_,hM⟩
  have:=Star_one.1 hs
  exact ⟨he,hM.os,hM.tape,hM.output,hM.size,fun k hk=>(this.2 k hk).2⟩
end Go.Proofs.YtgjbibabegabnaaGreat.Sx
namespace Go.Proofs.YtgjbibabegabnaaGreat.Sx
open Go
def vblk (k:Nat) (vs:List Value) (T:TypeId):Tok where
  ks:=[k]
  sh:=some (vs.map .v,T)
  r β:=blkRes (β k).b vs T
  sup h:=by rename_i β β';rw [h k (by simp)]
theorem vblk_ren {f:Nat→Nat} {k k':Nat} {vs:List Value} {T:TypeId} (hk:f k'=k):RenT f (vblk k' vs T) (vblk k vs T):=by
  intro β;subst hk;rfl
section
variable {P:Program} {n:Nat} {ops:Array Oper} {rest:List Oper} {fs fs':FL} {L L':TL} {ss:List Step}
theorem Run.mkFn1 {d f : Nat} {x : Operand} {ty : TypeId} {pos : String} {after : Array Edge} {g : Option (Nat × Bool)} {gr : FL} {k : Nat} (hg : Gd ops ⟨some d, .makeFunc (.func f) #[] #[x], ty, pos, after, g⟩ fs gr)
    (hx:ev fs x=some (SV.p k 0)) (hn:Nat.blt d n=true)
    (h:Run P n ops rest ((d,.a (.c (.fn (.func f) [k])))::fs) L ss fs' L'):Run P n ops (⟨some d,.makeFunc (.func f) #[] #[x],ty,pos,after,g⟩::rest) fs L (⟨gr++opds [(x,SV.p k 0)],some d,.a (.c (.fn (.func f) [k])),[],[],[],[]⟩::ss) fs' L' :=
  Run.pure [(x,SV.p k 0)] (.a (.c (.fn (.func f) [k]))) rfl hg (fun p hp=>by simp at hp;subst hp;exact hx) hn (fun β ρ w hρ=>by
    have h1:ρ x=.pointer (some ⟨(β k).b,0,none⟩):=hρ (x,SV.p k 0) (by simp)
    simp only [execOp,List.map_toArray,List.map_cons,List.map_nil,h1];rfl) h
theorem K.mkFn1 {K : List Step → FL → TL → Prop} {d f : Nat} {x : Operand} {ty : TypeId} {pos : String} {after : Array Edge} {g : Option (Nat × Bool)} {gr : FL} {k : Nat} (hg : Gd ops ⟨some d, .makeFunc (.func f) #[] #[x], ty, pos, after, g⟩ fs gr)
    (hx:ev fs x=some (SV.p k 0)) (hn:Nat.blt d n=true)
    (h:RunK P n ops rest ((d,.a (.c (.fn (.func f) [k])))::fs) L (fun ss fs' L'=>K (⟨gr++opds [(x,SV.p k 0)],some d,.a (.c (.fn (.func f) [k])),[],[],[],[]⟩::ss) fs' L')):RunK P n ops (⟨some d,.makeFunc (.func f) #[] #[x],ty,pos,after,g⟩::rest) fs L K :=
  RunK.of (fun _ _ _ h=>Run.mkFn1 hg hx hn h) h
theorem Run.nilRowS {α : Type} (k : Nat) (T : TypeId) (f : α → List Value) (s : Nat) {d : Nat} {op : Op} {x : Operand} {ty : TypeId} {pos : String} {after : Array Edge} {g : Option (Nat × Bool)} {gr : FL} (hop : op = .assign x ∨ op = .move x) (hg : Gd ops ⟨some d, op, ty, pos, after, g⟩ fs gr) (hx : ev fs x = some (SV.raw (.slice none 0 0)))
    (hl:lkT L k=none) (hfr:frB [k] fs L=true) (hn:Nat.blt d n=true)
    (h:Run P n ops rest ((d,.a (.c (.nv k)))::fs) ((k,some (lrow k T f s ([]:List α)))::L) ss fs' L'):Run P n ops (⟨some d,op,ty,pos,after,g⟩::rest) fs L (⟨gr++opds [(x,SV.raw (.slice none 0 0))],some d,.a (.c (.nv k)),[],[],[(k,lrow k T f s ([]:List α))],[k]⟩::ss) fs' L':=by
  obtain ⟨f1,f2,f3⟩:=frB_spec hfr
  have hev : ∀ p∈[(x,SV.raw (.slice none 0 0))],ev fs p.1=some p.2:=fun p hp=>by simp at hp;subst hp;exact hx
  refine Run.cons ?_ ?_ ?_ (fun j=>?_) h
  · intro β a w G K Q hrs hsz hst hK
    have hw:=hg.wanted hrs hsz
    have e1:a.eval x=.slice none 0 0:=opds_eval hg hev hrs (x,SV.raw (.slice none 0 0)) (by simp)
    unfold opW Oper.wp
    rw [if_pos hw]
    have hrun:(execOp a.eval ⟨some d,op,ty,pos,after,g⟩).run P w=.ok (.value (.slice none 0 0)) w:=by
      rcases hop with rfl | rfl <;> (simp only [execOp,e1];rfl)
    rw [hrun]
    have hG : ∀ b,¬ G b:=hst
    have hks : ∀ j,j∉[k]→upd β k ⟨0,.slice none 0 0⟩ j=β j:=fun j hj=>upd_ne _ _ (by simpa using hj)
    have:=hK (upd β k ⟨0,.slice none 0 0⟩) w (fun _=>False) hks (Star_one.2 ⟨fun x=>by simp [one1,Value.oneCell',Value.ownBlock],by simp,.inl ⟨by simp [one1,Value.oneCell'],by simp⟩⟩) (fun b hb=>hb.elim) (Mod.refl _ _)
    have e:(SV.a (.c (.nv k))).den (upd β k ⟨0,.slice none 0 0⟩)=.slice none 0 0:=by simp [SV.den,Av.den,Cl.den,one1,Value.oneCell']
    rw [e] at this
    rw [Oper.upon_value];exact this
  · refine ⟨fun t y hy=>?_,fun d' hd'=>?_,fun p hp=>by simp at hp,by simp,by simp,fun p hp=>by simp at hp;subst hp;exact .inr hl,f1,f2,fun j t hj _=>f3 j t hj⟩
    · rw [lk_append] at hy
      cases hx':lk gr t with
      | some z => rw [hx'] at hy; simp at hy; subst hy; exact hg.fs hx'
      | none => rw [hx'] at hy; simp at hy; exact opds_fs hev hy
    · simp at hd';subst hd'
      rw [Nat.blt_eq] at hn
      exact hn
  · simp only [Step.outF,lk_cons]
  · rw [lkT_cons,Step.outM_eq]
    by_cases e:j=k
    · subst e;simp [lkP]
    · simp [lkP,e,upd]
theorem K.nilRowS {K : List Step → FL → TL → Prop} {α : Type} (k : Nat) (T : TypeId) (f : α → List Value) (s : Nat) {d : Nat} {op : Op} {x : Operand} {ty : TypeId} {pos : String} {after : Array Edge} {g : Option (Nat × Bool)} {gr : FL} (hop : op = .assign x ∨ op = .move x) (hg : Gd ops ⟨some d, op, ty, pos, after, g⟩ fs gr) (hx : ev fs x = some (SV.raw (.slice none 0 0)))
    (hl:lkT L k=none) (hfr:frB [k] fs L=true) (hn:Nat.blt d n=true)
    (h:RunK P n ops rest ((d,.a (.c (.nv k)))::fs) ((k,some (lrow k T f s ([]:List α)))::L) (fun ss fs' L'=>K (⟨gr++opds [(x,SV.raw (.slice none 0 0))],some d,.a (.c (.nv k)),[],[],[(k,lrow k T f s ([]:List α))],[k]⟩::ss) fs' L')):RunK P n ops (⟨some d,op,ty,pos,after,g⟩::rest) fs L K :=
  RunK.of (fun _ _ _ h=>Run.nilRowS k T f s hop hg hx hl hfr hn h) h
theorem hd_ (l:List Nat) (h:ndB l=true):ndB l=true:=h
theorem lkT_none : ∀ (ti:List (Nat×Tok)) (L:TL) (j:Nat),lkT (ti.map (fun p=>(p.1,none))++L) j=if j∈ti.map (·.1) then none else lkT L j
  | [], L, j => by simp
  | p :: ti, L, j => by
    rw [List.map_cons,List.cons_append,lkT_cons]
    simp only [upd,lkT_none ti L j,List.map_cons,List.mem_cons]
    by_cases h:j=p.1
    · rw [if_pos h,if_pos (.inl h)]
    · rw [if_neg h];simp only [h,false_or]
theorem Run.callC {d : Nat} {c : Call} {ty : TypeId} {pos : String} {after : Array Edge} {g : Option (Nat × Bool)} {gr : FL} {f : FuncId} {args : List SV} {ret : SV} {fr : List Nat} (l : List (Operand × SV)) (tr ti to : List (Nat × Tok)) (args' : Env → List SV)
    (ha : ∀ β,(args' β).map (SV.den β)=args.map (SV.den β))
    (hs : ∀ (β:Env) (w:World) (S:Foot),Star (tr.map fun p=>p.2.r β) w S→SCon P f (args' β) ((0,rd S w)::ti) ret ((0,rd S w)::to) fr)
    (hc:ToFn P c ty l f args) (hg:Gd ops ⟨some d,.call c,ty,pos,after,g⟩ fs gr) (hev : ∀ p∈l,ev fs p.1=some p.2)
    (htk : ∀ p∈tr++ti,lkT L p.1=some p.2) (hnd:((tr++ti).map (·.1)).Nodup) (hnd':((tr++to).map (·.1)).Nodup) (hout : ∀ p∈to,p.1∈ti.map (·.1)∨lkT L p.1=none)
    (hfr:frB fr fs (ti.map (fun p=>(p.1,none))++L)=true) (hfr2 : ∀ k∈tr.flatMap (·.2.ks),k∉fr) (hn:Nat.blt d n=true)
    (h:Run P n ops rest ((d,ret)::fs) (to.map (fun p=>(p.1,some p.2))++(ti.map (fun p=>(p.1,none))++L)) ss fs' L'):Run P n ops (⟨some d,.call c,ty,pos,after,g⟩::rest) fs L (⟨gr++opds l,some d,ret,tr,ti,to,fr⟩::ss) fs' L':=by
  obtain ⟨f1,f2,f3⟩:=frB_spec hfr
  refine Run.cons ?_ ?_ ?_ (fun j=>?_) h
  · intro β a w G K Q hrs hsz hst hK
    have hw:=hg.wanted hrs hsz
    unfold opW Oper.wp
    rw [if_pos hw]
    have h1:=hc β a.eval w (opds_eval hg hev hrs)
    simp only [execOp]
    rw [h1,Oper.upon_enter]
    rw [List.map_append] at hst
    obtain ⟨S,F2,e,dj,hS,hT⟩:=Star_append.1 hst
    have hin:Star (((0,rd S w)::ti).map fun p=>p.2.r β) w G:=⟨S,F2,e,dj,⟨fun b=>Iff.rfl,fun b hb=>⟨hS.lt hb,rfl⟩⟩,hT⟩
    have hcall:=hs β w S hS β w G hin
    rw [ha] at hcall
    refine hcall.mono (fun e' w' he=>?_)
    obtain ⟨β',hb,rfl,F',h2,h3,h4⟩:=he
    obtain ⟨S',F3,eF,dF,hS',hT'⟩:=h2
    have hS2:Star (tr.map fun p=>p.2.r β') w' S:=by
      have:(tr.map fun p=>p.2.r β')=tr.map fun p=>p.2.r β:=List.map_congr_left (fun p hp=>(p.2.sup (fun k hk=>hb k (hfr2 k (List.mem_flatMap.2 ⟨p,hp,hk⟩)))))
      rw [this]
      exact hS.loc (fun b hb=>(hS'.2 b hb).2)
    refine hK β' w' F' hb ?_ h3 h4
    rw [List.map_append]
    have eS : ∀ b,S' b↔S b:=hS'.1
    exact Star_append.2 ⟨S,F3,fun b=>by rw [eF b,eS b],fun b h1 h2=>dF b ((eS b).2 h1) h2,hS2,hT'⟩
  · refine ⟨fun t z hz=>?_,fun d' hd'=>?_,htk,hnd,hnd',hout,f1,f2,fun j t hj hp=>?_⟩
    · rw [lk_append] at hz
      cases hx':lk gr t with
      | some z' => rw [hx'] at hz; simp at hz; subst hz; exact hg.fs hx'
      | none => rw [hx'] at hz; simp at hz; exact opds_fs hev hz
    · simp at hd';subst hd'
      rw [Nat.blt_eq] at hn
      exact hn
    · refine f3 j t ?_
      rw [lkT_none,if_neg]
      · exact hj
      · intro hm
        obtain ⟨p,hp',e⟩:=List.mem_map.1 hm
        exact hp p hp' e
  · simp only [Step.outF,lk_cons]
  · rw [Step.outM_eq]
    have e1 : ∀ (to:List (Nat×Tok)) (L:TL),lkT (to.map (fun p=>(p.1,some p.2))++L) j=(lkP to j).or (lkT L j):=by
      intro to L
      induction to with
      | nil => simp [lkP]
      | cons p to ih =>
        rw [List.map_cons,List.cons_append,lkT_cons]
        simp only [upd,lkP]
        split <;> simp [ih]
    rw [e1,lkT_none]
theorem K.callC {K : List Step → FL → TL → Prop} {d : Nat} {c : Call} {ty : TypeId} {pos : String} {after : Array Edge} {g : Option (Nat × Bool)} {gr : FL} {f : FuncId} {args : List SV} {ret : SV} {fr : List Nat} (l : List (Operand × SV)) (tr ti to : List (Nat × Tok)) (args' : Env → List SV)
    (hs : ∀ (β:Env) (w:World) (S:Foot),Star (tr.map fun p=>p.2.r β) w S→SCon P f (args' β) ((0,rd S w)::ti) ret ((0,rd S w)::to) fr)
    (hc:ToFn P c ty l f args) (hg:Gd ops ⟨some d,.call c,ty,pos,after,g⟩ fs gr) (hev:AllE fs l) (ha : ∀ β,(args' β).map (SV.den β)=args.map (SV.den β))
    (htk:AllT L (tr++ti)) (hnd:ndB ((tr++ti).map (·.1))=true) (hnd':ndB ((tr++to).map (·.1))=true) (hout:to.all (fun p=>(ti.map (·.1)).contains p.1 || (lkT L p.1).isNone)=true)
    (hfr:frB fr fs (ti.map (fun p=>(p.1,none))++L)=true) (hfr2:(tr.flatMap (·.2.ks)).all (fun k=>!fr.contains k)=true) (hn:Nat.blt d n=true)
    (h:RunK P n ops rest ((d,ret)::fs) (to.map (fun p=>(p.1,some p.2))++(ti.map (fun p=>(p.1,none))++L)) (fun ss fs' L'=>K (⟨gr++opds l,some d,ret,tr,ti,to,fr⟩::ss) fs' L')):RunK P n ops (⟨some d,.call c,ty,pos,after,g⟩::rest) fs L K :=
  RunK.of (fun _ _ _ h=>Run.callC l tr ti to args' ha hs hc hg hev.spec htk.spec (ndB_spec hnd) (ndB_spec hnd') (fun p hp=>by
    have:=List.all_eq_true.1 hout p hp
    rw [Bool.or_eq_true] at this
    rcases this with h | h
    · exact .inl (by simpa using h)
    · exact .inr (by simpa using h)) hfr (fun k hk hf=>by
    have:=List.all_eq_true.1 hfr2 k hk
    simp at this;exact this hf) hn h) h
theorem SCon.rd0 {P:Program} {f:FuncId} {args:List SV} {ti to:List (Nat×Tok)} {ret:SV} {fr:List Nat} (h:SCon P f args ti ret to fr) (S:Foot) (w0:World) (hS : ∀ b,¬ S b):SCon P f args ((0,rd S w0)::ti) ret ((0,rd S w0)::to) fr:=by
  intro β w F hs
  obtain ⟨F1,F2,e,d,h1,h2⟩:=hs
  have hF1 : ∀ b,¬ F1 b:=fun b hb=>hS b ((h1.1 b).1 hb)
  refine (h β w F2 h2).mono fun e' w'=>?_
  rintro ⟨β',hb,he,F',h3,h4,h5⟩
  refine ⟨β',hb,he,F',⟨fun _=>False,F',fun b=>by simp,fun b h=>h.elim,⟨fun b=>⟨fun h=>h.elim,fun h=>hS b h⟩,fun b hb=>absurd hb (hS b)⟩,h3⟩,fun b hb=>?_,h5.weaken (fun b _ hb=>(e b).2 (.inr hb))⟩
  rcases h4 b hb with h | h
  · exact .inl ((e b).2 (.inr h))
  · exact .inr h
end
end Go.Proofs.YtgjbibabegabnaaGreat.Sx
namespace Go.Proofs.YtgjbibabegabnaaGreat.Sx
open Go
section
variable {P:Program} {T te:TypeId} {x z:Operand} {j:TypeInfo}
end
section
variable {P:Program} {n:Nat} {ops:Array Oper} {rest:List Oper} {fs fs':FL} {L L':TL} {ss:List Step} {K:List Step→FL→TL→Prop}
end
section
variable {P:Program} {T te:TypeId} {x z:Operand}
end
end Go.Proofs.YtgjbibabegabnaaGreat.Sx
namespace Go.Proofs.YtgjbibabegabnaaGreat.Sx
open Go
section
variable {P:Program} {t ty:TypeId} {x z:Operand}
end
section
variable {P:Program} {n:Nat} {ops:Array Oper} {rest:List Oper} {fs fs':FL} {L L':TL} {ss:List Step}
end
end Go.Proofs.YtgjbibabegabnaaGreat.Sx
namespace Go.Proofs.YtgjbibabegabnaaGreat.Sx
open Go
section
variable {α:Type} {f:α→List Value} {s:Nat} {l:List α}
end
section
variable {P:Program} {n:Nat} {ops:Array Oper} {rest:List Oper} {fs fs':FL} {L L':TL} {ss:List Step}
end
end Go.Proofs.YtgjbibabegabnaaGreat.Sx
namespace Go.Proofs.YtgjbibabegabnaaGreat.Sx
open Go
theorem StarM.same {m:Nat→Option Tok} {β:Env} {w:World} {F:Foot} {n:Nat} {t t':Tok} (h:StarM m β w F) (hm:m n=some t) (hr:t'.r β=t.r β):StarM (upd m n (some t')) β w F:=by
  obtain ⟨φ,h1,h2,h3,h4⟩:=h
  refine ⟨φ,fun k u hk=>?_,fun k hk=>?_,h3,h4⟩
  · by_cases e:k=n
    · subst e
      rw [upd_same] at hk;cases hk
      rw [hr];exact h1 k t hm
    · rw [upd_ne _ _ e] at hk;exact h1 k u hk
  · by_cases e:k=n
    · subst e;rw [upd_same] at hk;cases hk
    · rw [upd_ne _ _ e] at hk;exact h2 k hk
section
variable {C:Ctx} {fs:FL} {L:TL} {R:Act→World→Prop} {α:Type}
theorem nil_star {β : Env} {w : World} {F : Foot} {k : Nat} (T : TypeId) (f : α → List Value) (s : Nat) (hs : StarM (lkT L) β w F) (hL : lkT L k = none) (f3 : ∀ j t, lkT L j = some t → ∀ i ∈ t.ks, i ∉ [k]) :
    StarM (upd (lkT L) k (some (lrow k T f s ([]:List α)))) (upd β k ⟨0,.slice none 0 0⟩) w F:=by
  have hb : ∀ j,j∉[k]→upd β k ⟨0,.slice none 0 0⟩ j=β j:=fun j hj=>upd_ne _ _ (by simpa using hj)
  have h1:=hs.env (β':=upd β k ⟨0,.slice none 0 0⟩) (fun j tk hj i hi=>(hb i (f3 j tk hj i hi)).symm)
  have h2:Star [((lrow k T f s ([]:List α)).r (upd β k ⟨0,.slice none 0 0⟩))] w (fun _=>False):=Star_one.2 ⟨fun x=>by simp [one1,Value.oneCell',Value.ownBlock],by simp,.inl ⟨by simp [one1,Value.oneCell'],by simp⟩⟩
  exact h1.put hL (Star_one.1 h2) (fun _ h=>h.elim) (fun b=>by simp)
theorem At.nilAgg {l l' : List Cl} {t : Nat} (i k : Nat) (T : TypeId) (f : α → List Value) (s : Nat) (hl : lk fs t = some (.a (.agg l))) (hi : l[i]? = some (.v (.slice none 0 0))) (hL : lkT L k = none) (hfr : frB [k] fs L = true) (hl' : l.set i (.nv k) = l')
    (h:At C ((t,.a (.agg l'))::fs) ((k,some (lrow k T f s ([]:List α)))::L) R):At C fs L R:=by
  subst hl'
  obtain ⟨f1,f2,f3⟩:=frB_spec hfr
  rintro a w ⟨β,F,hβ,hfs,hlt,hn,hd,hs,hF,hM⟩
  have hb : ∀ j,j∉[k]→upd β k ⟨0,.slice none 0 0⟩ j=β j:=fun j hj=>upd_ne _ _ (by simpa using hj)
  refine h a w ⟨upd β k ⟨0,.slice none 0 0⟩,F,fun j hj=>?_,fun t' x hx=>?_,fun t' ht=>?_,hn,hd,?_,hF,hM⟩
  · rw [hb j (fun hm=>by simp at hm;subst hm;exact Nat.lt_irrefl _ (Nat.lt_of_lt_of_le hj (f1 j (by simp)))),hβ j hj]
  · rw [lk_cons] at hx
    by_cases e:t'=t
    · subst e
      simp at hx;subst hx
      rw [hfs _ _ hl]
      have h0:SV.den β (.a (.agg l))=SV.den (upd β k ⟨0,.slice none 0 0⟩) (.a (.agg l)):=SV.den_congr _ (fun i hi=>(hb i (f2 _ _ hl i hi)).symm)
      rw [h0]
      simp only [SV.den,Av.den]
      congr 2
      apply List.ext_getElem?
      intro j
      simp only [List.getElem?_map,List.getElem?_set]
      by_cases ej:i=j
      · subst ej
        rw [if_pos rfl,hi]
        have:i<l.length:=(List.getElem?_eq_some_iff.1 hi).1
        rw [if_pos this]
        simp [Cl.den,one1,Value.oneCell']
      · rw [if_neg ej]
    · rw [upd_ne _ _ e] at hx
      rw [hfs _ _ hx]
      exact SV.den_congr x (fun i hi=>(hb i (f2 _ _ hx i hi)).symm)
  · rw [lk_cons] at ht
    by_cases e:t'=t
    · subst e;exact hlt _ (by rw [hl];rfl)
    · rw [upd_ne _ _ e] at ht;exact hlt _ ht
  · rw [lkT_cons];exact nil_star T f s hs hL f3
theorem At.nilBlk {l l' : List Cl} {n : Nat} {Tb : TypeId} (i k : Nat) (T : TypeId) (f : α → List Value) (s : Nat) (hl : lkT L n = some (blk n l Tb)) (hi : l[i]? = some (.v (.slice none 0 0))) (hL : lkT L k = none) (hfr : frB [k] fs L = true) (hl' : l.set i (.nv k) = l')
    (h:At C fs ((n,some (blk n l' Tb))::(k,some (lrow k T f s ([]:List α)))::L) R):At C fs L R:=by
  subst hl'
  obtain ⟨f1,f2,f3⟩:=frB_spec hfr
  rintro a w ⟨β,F,hβ,hfs,hlt,hn,hd,hs,hF,hM⟩
  have hb : ∀ j,j∉[k]→upd β k ⟨0,.slice none 0 0⟩ j=β j:=fun j hj=>upd_ne _ _ (by simpa using hj)
  refine h a w ⟨upd β k ⟨0,.slice none 0 0⟩,F,fun j hj=>?_,fun t' x hx=>?_,hlt,hn,hd,?_,hF,hM⟩
  · rw [hb j (fun hm=>by simp at hm;subst hm;exact Nat.lt_irrefl _ (Nat.lt_of_lt_of_le hj (f1 j (by simp)))),hβ j hj]
  · rw [hfs _ _ hx]
    exact SV.den_congr x (fun i hi=>(hb i (f2 _ _ hx i hi)).symm)
  · rw [lkT_cons,lkT_cons]
    have hne:n≠k:=by rintro rfl;rw [hL] at hl;cases hl
    refine (nil_star T f s hs hL f3).same (t:=blk n l Tb) (by rw [upd_ne _ _ hne];exact hl) ?_
    show blkRes _ _ _=blkRes _ _ _
    congr 1
    apply List.ext_getElem?
    intro j
    simp only [List.getElem?_map,List.getElem?_set]
    by_cases ej:i=j
    · subst ej
      have:i<l.length:=(List.getElem?_eq_some_iff.1 hi).1
      rw [if_pos rfl,hi,if_pos this]
      simp [Cl.den,one1,Value.oneCell']
    · rw [if_neg ej]
end
section
variable {P:Program} {n:Nat} {ops:Array Oper} {rest:List Oper} {fs:FL} {L:TL} {K:List Step→FL→TL→Prop}
theorem g0 {d:Option Nat} {op:Op} {T:TypeId} {pos:String} {after:Array Edge}:Gd ops ⟨d,op,T,pos,after,none⟩ fs []:=gd0 rfl
theorem g1 {d:Option Nat} {op:Op} {T:TypeId} {pos:String} {after:Array Edge} {j:Nat} {want b:Bool} {t:Nat} (hd:(ops[j]?).bind (·.dst)=some t) (hl:lk fs t=some (SV.b b)) (hb:b=want):Gd ops ⟨d,op,T,pos,after,some (j,want)⟩ fs [(t,SV.b want)]:=gd1 rfl hd hl hb
theorem K.mv {d : Nat} {x : Operand} {T : TypeId} {pos : String} {after : Array Edge} {y : SV} (hx : ev fs x = some y) (hn : Nat.blt d n = true)
    (h:RunK P n ops rest ((d,y)::fs) L (fun ss fs' L'=>K (⟨[]++opds [(x,y)],some d,y,[],[],[],[]⟩::ss) fs' L')):RunK P n ops (⟨some d,.move x,T,pos,after,none⟩::rest) fs L K:=Sx.K.move (.inl rfl) g0 hx hn h
theorem K.as {d : Nat} {x : Operand} {T : TypeId} {pos : String} {after : Array Edge} {y : SV} (hx : ev fs x = some y) (hn : Nat.blt d n = true)
    (h:RunK P n ops rest ((d,y)::fs) L (fun ss fs' L'=>K (⟨[]++opds [(x,y)],some d,y,[],[],[],[]⟩::ss) fs' L')):RunK P n ops (⟨some d,.assign x,T,pos,after,none⟩::rest) fs L K:=Sx.K.move (.inr rfl) g0 hx hn h
theorem K.sk {op : Op} {d : Nat} {T : TypeId} {pos : String} {after : Array Edge} {j : Nat} {want b : Bool} {t : Nat} (hdj : (ops[j]?).bind (·.dst) = some t) (hl : lk fs t = some (SV.b b)) (hb : b = !want) (hn : Nat.blt d n = true)
    (h:RunK P n ops rest ((d,SV.raw undef)::fs) L (fun ss fs' L'=>K (⟨[(t,SV.b b)],some d,SV.raw undef,[],[],[],[]⟩::ss) fs' L')):RunK P n ops (⟨some d,op,T,pos,after,some (j,want)⟩::rest) fs L K:=Sx.K.skip rfl rfl hdj hl hb hn h
end
theorem la {α:Type} {e:α→List Value} {s:Nat} {l:List α} {k:Nat} {T:TypeId} {tr:List (Nat×Tok)} {β:Env} {w:World} {S:Foot} (j:Nat) (hj:tr[j]? = some (k,lrow k T e s l)) (hf : ∀ c,(e c).length=s) (hs:Nat.blt 0 s=true) (h:Star (tr.map fun p=>p.2.r β) w S):LArg S w ((lrowV k T e s l).s.den β) e s l :=
  (lrowV_isC hf (Nat.blt_eq▸hs)).larg ⟨k,List.mem_of_getElem? hj⟩ h
def avOf:Option SV→Av
  | some (.a y) => y
  | _ => .agg []
def isAv:Option SV→Bool
  | some (.a _) => true
  | _ => false
def getT (L:TL):List Nat→List (Nat×Tok)
  | [] => []
  | k :: ks => match lkT L k with
    | some t => (k, t) :: getT L ks
    | none => getT L ks
theorem getT_all {L:TL} : ∀ ks,AllT L (getT L ks)
  | [] => trivial
  | k :: ks => by
    unfold getT
    split
    · rename_i t h;exact ⟨h,getT_all ks⟩
    · exact getT_all ks
theorem allR_of {Y:TypeId→TyI} {fs:FL} {L:TL} : ∀ ts:List Nat,ts.all (fun t=>isAv (lk fs t))=true→AllR Y fs L (ts.map fun t=>(.tmp t,avOf (lk fs t)))
  | [], _ => trivial
  | t :: ts, h => by
    simp only [List.all_cons,Bool.and_eq_true] at h
    refine ⟨?_,allR_of ts h.2⟩
    obtain ⟨y,hy⟩ : ∃ y,lk fs t=some (.a y):=by
      have h1:=h.1
      cases hl:lk fs t with
      | none => rw [hl] at h1; cases h1
      | some x =>
        cases x with
        | a y => exact ⟨y, rfl⟩
        | _ => rw [hl] at h1; cases h1
    have e:avOf (lk fs t)=y:=by rw [hy];rfl
    show ResIs Y fs L (.tmp t) (avOf (lk fs t))
    rw [e];exact .tmp hy
section
variable {fs:FL} {L:TL} {P:Program} {fn:Func} {to:List (Nat×Tok)} {ret:SV} {fr:List Nat} {F0:Foot} {W:World} {β0:Env} {N:Nat}
theorem At.dt (Y : Tys P) {e : Exit} (hx : e = .ret ∨ e = .normal) (ts : List Nat) (hr : fn.results = (ts.map ResultVar.tmp).toArray) (ha : ts.all (fun t => isAv (lk fs t)) = true) (hto : getT L (to.map (·.1)) = to) (he : retOf (ts.map fun t => avOf (lk fs t)) = ret)
    (hnd:ndB (to.map (·.1))=true) (hfr:fr.all (fun k=>Nat.ble 20 k)=true) (hks:ksB (ret.ks++to.flatMap (·.2.ks)) fr=true) :
    At ⟨W,F0,β0,N,[]⟩ fs L (bodyPost P fn (Ret F0 W fr β0 ret to) e):=by
  have e1:(ts.map fun t=>((.tmp t:ResultVar),avOf (lk fs t))).map (·.1)=ts.map ResultVar.tmp:=by simp [Function.comp_def]
  have e2:(ts.map fun t=>((.tmp t:ResultVar),avOf (lk fs t))).map (·.2)=ts.map fun t=>avOf (lk fs t):=by simp [Function.comp_def]
  refine At.done (to':=getT L (to.map (·.1))) Y (ts.map fun t=>(.tmp t,avOf (lk fs t))) ?_ (allR_of ts ha) (getT_all _) hto ?_ ?_ hfr ?_ hx
  · rw [e1];exact hr
  · rw [e2];exact he
  · rw [hto];exact hnd
  · rw [e2,he,hto];exact hks
theorem At.dr (Y : Tys P) (ts : List Nat) (hr : fn.results = (ts.map ResultVar.tmp).toArray) (ha : ts.all (fun t => isAv (lk fs t)) = true) (hto : getT L (to.map (·.1)) = to) (he : retOf (ts.map fun t => avOf (lk fs t)) = ret)
    (hnd:ndB (to.map (·.1))=true) (hfr:fr.all (fun k=>Nat.ble 20 k)=true) (hks:ksB (ret.ks++to.flatMap (·.2.ks)) fr=true) :
    At ⟨W,F0,β0,N,[]⟩ fs L (bodyPost P fn (Ret F0 W fr β0 ret to) .ret):=At.dt Y (.inl rfl) ts hr ha hto he hnd hfr hks
theorem At.dn (Y : Tys P) (ts : List Nat) (hr : fn.results = (ts.map ResultVar.tmp).toArray) (ha : ts.all (fun t => isAv (lk fs t)) = true) (hto : getT L (to.map (·.1)) = to) (he : retOf (ts.map fun t => avOf (lk fs t)) = ret)
    (hnd:ndB (to.map (·.1))=true) (hfr:fr.all (fun k=>Nat.ble 20 k)=true) (hks:ksB (ret.ks++to.flatMap (·.2.ks)) fr=true) :
    At ⟨W,F0,β0,N,[]⟩ fs L (bodyPost P fn (Ret F0 W fr β0 ret to) .normal):=At.dt Y (.inr rfl) ts hr ha hto he hnd hfr hks
end
theorem oi {α:Type} {a b:α} (h:some a=some b):b=a:=(Option.some.inj h).symm
def JP (C:Ctx) {σ:Type} (Fs:σ→FL) (Tl:σ→List (Nat×Tok)):Act→World→Prop:=fun a w=>∃ s',Holds C (lk (Fs s')) (lkT ((Tl s').map fun p=>(p.1,some p.2))) a w
def LP (C:Ctx) {σ:Type} (Fs:σ→FL) (Tl:σ→List (Nat×Tok)) (μ:σ→Nat) (s:σ):Act→World→Prop:=fun a w=>∃ s',μ s'<μ s∧Holds C (lk (Fs s')) (lkT ((Tl s').map fun p=>(p.1,some p.2))) a w
section
variable {C:Ctx} {P:Program} {fs:FL} {L:TL} {Q:Exit→Act→World→Prop}
theorem G.sJ {σ:Type} (Fs:σ→FL) (Tl:σ→List (Nat×Tok)) {x y:Code} (h:G C P fs L x (Exit.then (JP C Fs Tl) Q)) (hy : ∀ s:σ,G C P (Fs s) ((Tl s).map fun p=>(p.1,some p.2)) y Q):G C P fs L (.seq x y) Q:=G.seqJ Fs Tl h hy
theorem At.jd {σ : Type} {Fs : σ → FL} {Tl : σ → List (Nat × Tok)} (s' : σ) (ρ : List (Nat × Nat)) (ts : List Tok) (hρ : ρ.all (fun p => Nat.ble 20 p.1) = true) (hf : RenF (rn ρ) fs (Fs s')) (hl : RenL (rn ρ) L (Tl s') ts) (hnd : ndB (((Tl s').map (·.1)).map (rn ρ)) = true) :
    At C fs L (Exit.then (JP C Fs Tl) Q .normal):=At.joined s' ρ ts hρ hf hl hnd
theorem G.lp {σ : Type} (Fs : σ → FL) (Tl : σ → List (Nat × Tok)) (μ : σ → Nat) (s0 : σ) {c : Code} (h0 : At C fs L (fun a w => Holds C (lk (Fs s0)) (lkT ((Tl s0).map fun p => (p.1, some p.2))) a w))
    (hr : ∀ s:σ,G C P (Fs s) ((Tl s).map fun p=>(p.1,some p.2)) c (Exit.then (LP C Fs Tl μ s) Q)):G C P fs L (.loop c) Q:=G.loop Fs Tl μ s0 h0 hr
theorem At.ag {σ : Type} {Fs : σ → FL} {Tl : σ → List (Nat × Tok)} {μ : σ → Nat} {s : σ} (s' : σ) (ρ : List (Nat × Nat)) (ts : List Tok) (hμ : μ s' < μ s) (hρ : ρ.all (fun p => Nat.ble 20 p.1) = true) (hf : RenF (rn ρ) fs (Fs s')) (hl : RenL (rn ρ) L (Tl s') ts) (hnd : ndB (((Tl s').map (·.1)).map (rn ρ)) = true) :
    At C fs L (Exit.then (LP C Fs Tl μ s) Q .normal):=At.again s' ρ ts hμ hρ hf hl hnd
end
def evD (fs:FL) (o:Operand):SV:=(ev fs o).getD (SV.raw undef)
def opl (fs:FL) (az:Array Operand):List (Operand×SV):=az.toList.map fun o=>(o,evD fs o)
def fnl (f:FuncId) (fs:FL) (az:Array Operand):List (Operand×SV):=(.func f,SV.raw (.func (.func f) #[] #[]))::opl fs az
theorem fnl_all {f:FuncId} {fs:FL} {az:Array Operand} (h:az.toList.all (fun o=>(ev fs o).isSome)=true):AllE fs (fnl f fs az):=by
  refine ⟨rfl,?_⟩
  unfold opl
  generalize az.toList=l at *
  induction l with
  | nil => trivial
  | cons o l ih =>
    simp only [List.all_cons,Bool.and_eq_true] at h
    refine ⟨?_,ih h.2⟩
    obtain ⟨x,hx⟩:=Option.isSome_iff_exists.1 h.1
    show ev fs o=some (evD fs o)
    simp [evD,hx]
theorem fnl_to {P:Program} {f:FuncId} {fs:FL} {az:Array Operand} {ats:Array TypeId} {ty:TypeId} (hf:fnB P f=true):ToFn P ⟨.value (.func f),az,ats⟩ ty (fnl f fs az) f ((opl fs az).map (·.2)) :=
  toFn_func hf (by unfold opl;simp [Function.comp_def])
theorem getT_of {L:TL} {tr:List (Nat×Tok)} (h:getT L (tr.map (·.1))=tr):AllT L tr:=h▸getT_all _
section
variable {P:Program} {n:Nat} {ops:Array Oper} {rest:List Oper} {fs:FL} {L:TL} {K:List Step→FL→TL→Prop} {d:Nat} {az:Array Operand} {ats:Array TypeId} {ty:TypeId} {pos:String} {after:Array Edge} {g:Option (Nat×Bool)} {gr:FL} {f:FuncId} {args:List SV} {ret:SV} {tr ti to:List (Nat×Tok)} {fr:List Nat} {args':Env→List SV}
theorem K.cR (hf : fnB P f = true) (hs : SCon P f args tr ret tr fr) (hg : Gd ops ⟨some d, .call ⟨.value (.func f), az, ats⟩, ty, pos, after, g⟩ fs gr) (ha : (opl fs az).map (·.2) = args) (hev : az.toList.all (fun o => (ev fs o).isSome) = true) (htk : getT L (tr.map (·.1)) = tr) (hb : (ndB (tr.map (·.1)) && (frB fr fs L && Nat.blt d n)) = true)
    (h:RunK P n ops rest ((d,ret)::fs) L (fun ss fs' L'=>K (⟨gr++opds (fnl f fs az),some d,ret,tr,[],[],fr⟩::ss) fs' L')):RunK P n ops (⟨some d,.call ⟨.value (.func f),az,ats⟩,ty,pos,after,g⟩::rest) fs L K:=by
  subst ha
  simp only [Bool.and_eq_true] at hb
  exact Sx.K.callR (fnl f fs az) hs (fnl_to hf) hg (fnl_all hev) (getT_of htk) hb.1 hb.2.1 hb.2.2 h
theorem K.c0 (hf : fnB P f = true) (hs : SCon P f args ti ret to fr) (hg : Gd ops ⟨some d, .call ⟨.value (.func f), az, ats⟩, ty, pos, after, g⟩ fs gr) (ha : (opl fs az).map (·.2) = args) (hev : az.toList.all (fun o => (ev fs o).isSome) = true) (htk : getT L (ti.map (·.1)) = ti)
    (hb:(ndB (ti.map (·.1))&&(ndB (to.map (·.1))&&(ti.all (fun p=>(to.map (·.1)).contains p.1)&&(to.all (fun p=>(ti.map (·.1)).contains p.1 || (lkT L p.1).isNone)&&(frB fr fs L&&Nat.blt d n)))))=true)
    (h:RunK P n ops rest ((d,ret)::fs) (to.map (fun p=>(p.1,some p.2))++L) (fun ss fs' L'=>K (⟨gr++opds (fnl f fs az),some d,ret,[],ti,to,fr⟩::ss) fs' L')):RunK P n ops (⟨some d,.call ⟨.value (.func f),az,ats⟩,ty,pos,after,g⟩::rest) fs L K:=by
  subst ha
  simp only [Bool.and_eq_true] at hb
  exact Sx.K.call0 (fnl f fs az) hs (fnl_to hf) hg (fnl_all hev) (getT_of htk) hb.1 hb.2.1 hb.2.2.1 hb.2.2.2.1 hb.2.2.2.2.1 hb.2.2.2.2.2 h
theorem K.cV (hf : fnB P f = true) (ks : List Nat) (hs : ∀ (β : Env) (w : World) (S : Foot), Star ((getT L ks).map fun p => p.2.r β) w S → SCon P f (args' β) ((0, rd S w) :: ti) ret ((0, rd S w) :: to) fr) (hg : Gd ops ⟨some d, .call ⟨.value (.func f), az, ats⟩, ty, pos, after, g⟩ fs gr) (ha : ∀ β, (args' β).map (SV.den β) = ((opl fs az).map (·.2)).map (SV.den β))
    (hev:az.toList.all (fun o=>(ev fs o).isSome)=true) (htk:getT L (ti.map (·.1))=ti)
    (hb:(ndB ((getT L ks++ti).map (·.1))&&(ndB ((getT L ks++to).map (·.1))&&(ti.all (fun p=>(to.map (·.1)).contains p.1)&&(to.all (fun p=>(ti.map (·.1)).contains p.1 || (lkT L p.1).isNone)&&(frB fr fs L&&Nat.blt d n)))))=true)
    (h:RunK P n ops rest ((d,ret)::fs) (to.map (fun p=>(p.1,some p.2))++L) (fun ss fs' L'=>K (⟨gr++opds (fnl f fs az),some d,ret,getT L ks,ti,to,fr⟩::ss) fs' L')):RunK P n ops (⟨some d,.call ⟨.value (.func f),az,ats⟩,ty,pos,after,g⟩::rest) fs L K:=by
  simp only [Bool.and_eq_true] at hb
  have ht:AllT L (getT L ks++ti):=by
    have : ∀ l:List (Nat×Tok),AllT L l→AllT L (l++ti):=fun l=>by
      induction l with
      | nil => intro _; exact getT_of htk
      | cons p l ih => intro h; exact ⟨h.1, ih h.2⟩
    exact this _ (getT_all _)
  exact Sx.K.callV (fnl f fs az) (getT L ks) ti to args' hs (fnl_to hf) hg (fnl_all hev) ha ht hb.1 hb.2.1 hb.2.2.1 hb.2.2.2.1 hb.2.2.2.2.1 hb.2.2.2.2.2 h
theorem K.cC (hf : fnB P f = true) (ks : List Nat) (hs : ∀ (β : Env) (w : World) (S : Foot), Star ((getT L ks).map fun p => p.2.r β) w S → SCon P f (args' β) ((0, rd S w) :: ti) ret ((0, rd S w) :: to) fr) (hg : Gd ops ⟨some d, .call ⟨.value (.func f), az, ats⟩, ty, pos, after, g⟩ fs gr) (ha : ∀ β, (args' β).map (SV.den β) = ((opl fs az).map (·.2)).map (SV.den β))
    (hev:az.toList.all (fun o=>(ev fs o).isSome)=true) (htk:getT L (ti.map (·.1))=ti)
    (hb:(ndB ((getT L ks++ti).map (·.1))&&(ndB ((getT L ks++to).map (·.1))&&(to.all (fun p=>(ti.map (·.1)).contains p.1 || (lkT L p.1).isNone)&&(frB fr fs (ti.map (fun p=>(p.1,none))++L)&&(((getT L ks).flatMap (·.2.ks)).all (fun k=>!fr.contains k)&&Nat.blt d n)))))=true)
    (h:RunK P n ops rest ((d,ret)::fs) (to.map (fun p=>(p.1,some p.2))++(ti.map (fun p=>(p.1,none))++L)) (fun ss fs' L'=>K (⟨gr++opds (fnl f fs az),some d,ret,getT L ks,ti,to,fr⟩::ss) fs' L')):RunK P n ops (⟨some d,.call ⟨.value (.func f),az,ats⟩,ty,pos,after,g⟩::rest) fs L K:=by
  simp only [Bool.and_eq_true] at hb
  have ht:AllT L (getT L ks++ti):=by
    have : ∀ l:List (Nat×Tok),AllT L l→AllT L (l++ti):=fun l=>by
      induction l with
      | nil => intro _; exact getT_of htk
      | cons p l ih => intro h; exact ⟨h.1, ih h.2⟩
    exact this _ (getT_all _)
  exact Sx.K.callC (fnl f fs az) (getT L ks) ti to args' hs (fnl_to hf) hg (fnl_all hev) ha ht hb.1 hb.2.1 hb.2.2.1 hb.2.2.2.1 hb.2.2.2.2.1 hb.2.2.2.2.2 h
end
section
variable {C:Ctx} {P:Program} {fs:FL} {L:TL} {Q Q':Exit→Act→World→Prop}
theorem At.ns {x z:Code} (h:G C P fs L x (Exit.then (fun a w=>z.wp P Q a w) Q)):At C fs L (Exit.then (fun a w=>(Code.seq x z).wp P Q a w) Q' .normal):=At.next (G.seq h)
theorem At.nr {z:Code} {id:Nat} {l:List Oper} (h:RunK P C.n l.toArray l fs L (fun _ fs' L'=>At C fs' L' (Exit.then (fun a w=>z.wp P Q a w) Q .normal))):At C fs L (Exit.then (fun a w=>(Code.seq (.region id l.toArray false) z).wp P Q a w) Q' .normal):=At.ns (G.rg h)
end
end Go.Proofs.YtgjbibabegabnaaGreat.Sx
namespace Go.Proofs.YtgjbibabegabnaaGreat.Sx
open Go
section
variable {P:Program} {n:Nat} {ops:Array Oper} {rest:List Oper} {fs fs':FL} {L L':TL} {ss:List Step}
end
end Go.Proofs.YtgjbibabegabnaaGreat.Sx
namespace Go.Proofs.YtgjbibabegabnaaGreat.Sx
open Go
section
variable {α:Type} {e:α→List Value} {s:Nat} {S:Foot} {W0:World}
theorem LAt.mono {v:Value} {b o:Nat} {l:List α} (h:LAt S W0 v b o e s l) {S':Foot} {W1:World} (hS : ∀ b,S b→S' b) (hW : ∀ b,S b→W1.heap[b]? = W0.heap[b]?):LAt S' W1 v b o e s l:=by
  refine ⟨h.len,h.pos,h.sl,fun h0=>hS _ (h.inn h0),fun j u hj=>?_⟩
  have h0:0<l.length:=by
    cases l with
    | nil => simp at hj
    | cons x l => simp
  have:=h.cells j u hj
  simp only [World.cell?] at this ⊢
  rw [hW b (h.inn h0)];exact this
theorem LArg.mono {v:Value} {l:List α} (h:LArg S W0 v e s l) {S':Foot} {W1:World} (hS : ∀ b,S b→S' b) (hW : ∀ b,S b→W1.heap[b]? = W0.heap[b]?):LArg S' W1 v e s l:=by
  obtain ⟨b,o,h⟩:=h
  exact ⟨b,o,h.mono hS hW⟩
end
section
variable {P:Program} {n:Nat} {ops:Array Oper} {rest:List Oper} {fs fs':FL} {L L':TL} {ss:List Step}
theorem sn_eql {P:Program} {T e:TypeId} {x z:Operand} (h:P.underlying T=some (.slice e)) (a:Option Addr) (l c:Nat) (w:World):(do eqGuard .eql T x z (.slice a l c) (.slice none 0 0);binOp .eql T (.slice a l c) (.slice none 0 0):Sem Value).run P w=.ok (.bool a.isNone) w :=
  eql_of rfl rfl (run_equal_slice_nil w T e a l c h)
end
section
variable {H:Type} {enc:TypeId×Value→H} {P:Program} {w:World} {base:Nat} {spare:Nat→Bool} {held:Bool}
end
end Go.Proofs.YtgjbibabegabnaaGreat.Sx
namespace Go.Proofs.YtgjbibabegabnaaGreat.Sx
open Go
def starRes (L:List Res):Res where
  holds:=Star L
  loc hw h:=h.loc hw
  lt h hb:=h.lt hb
def adEnv (a:Nat→Nat):Env:=fun k=>⟨a k,undef⟩
def eltRes (l:List (Nat×Tok)) (a:Nat→Nat):Res:=starRes (l.map fun p=>p.2.r (adEnv a))
section
variable {σ:Type}
def hpL (toks:σ→List (Nat×Tok)) (A:List (Nat→Nat)) (Q:List σ):List Res:=List.zipWith (fun a q=>eltRes (toks q) a) A Q
def hp (k:Nat) (toks:σ→List (Nat×Tok)) (A:List (Nat→Nat)) (Q:List σ):Tok where
  ks:=[]
  r _:=starRes (hpL toks A Q)
  sup _:=rfl
theorem Star_mid {A B:List Res} {r:Res} {w:World} {F:Foot}:Star (A++r::B) w F↔∃ F1 F2:Foot,(∀ b,F b↔F1 b∨F2 b)∧(∀ b,F1 b→¬ F2 b)∧r.holds w F1∧Star (A++B) w F2:=by
  constructor
  · intro h
    obtain ⟨FA,FR,e,d,hA,F1,FB,e',d',h1,hB⟩:=Star_append.1 h
    refine ⟨F1,fun b=>FA b∨FB b,fun b=>?_,?_,h1,Star_append.2 ⟨FA,FB,fun b=>Iff.rfl,fun b ha hb=>d b ha ((e' b).2 (.inr hb)),hA,hB⟩⟩
    · rw [e b,e' b];constructor
      · rintro (h | h | h)
        · exact .inr (.inl h)
        · exact .inl h
        · exact .inr (.inr h)
      · rintro (h | h | h)
        · exact .inr (.inl h)
        · exact .inl h
        · exact .inr (.inr h)
    · rintro b h1 (h | h)
      · exact d b h ((e' b).2 (.inl h1))
      · exact d' b h1 h
  · rintro ⟨F1,F2,e,d,h1,h2⟩
    obtain ⟨FA,FB,e',d',hA,hB⟩:=Star_append.1 h2
    refine Star_append.2 ⟨FA,fun b=>F1 b∨FB b,fun b=>?_,?_,hA,F1,FB,fun b=>Iff.rfl,fun b h h'=>d b h ((e' b).2 (.inr h')),h1,hB⟩
    · rw [e b,e' b];constructor
      · rintro (h | h | h)
        · exact .inr (.inl h)
        · exact .inl h
        · exact .inr (.inr h)
      · rintro (h | h | h)
        · exact .inr (.inl h)
        · exact .inl h
        · exact .inr (.inr h)
    · rintro b ha (h | h)
      · exact d b h ((e' b).2 (.inl ha))
      · exact d' b ha h
theorem hpL_mid {toks:σ→List (Nat×Tok)} : ∀ {A:List (Nat→Nat)} {Q:List σ} {i:Nat} {a:Nat→Nat} {q:σ},A[i]? = some a→Q[i]? = some q→∃ L1 L2:List Res,hpL toks A Q=L1++eltRes (toks q) a::L2∧∀ q',hpL toks A (Q.set i q')=L1++eltRes (toks q') a::L2
  | [], _, i, a, q, h, _ => by simp at h
  | _ :: _, [], i, a, q, _, h => by simp at h
  | x :: A, y :: Q, 0, a, q, h, h' => by
    simp at h h';subst h;subst h'
    exact ⟨[],hpL toks A Q,rfl,fun q'=>rfl⟩
  | x :: A, y :: Q, i + 1, a, q, h, h' => by
    simp at h h'
    obtain ⟨L1,L2,h1,h2⟩:=hpL_mid (toks:=toks) h h'
    refine ⟨eltRes (toks y) x::L1,L2,?_,fun q'=>?_⟩
    · show eltRes (toks y) x::hpL toks A Q=_
      rw [h1];rfl
    · show eltRes (toks y) x::hpL toks A (Q.set i q')=_
      rw [h2];rfl
def ByB (l:List (Nat×Tok)) (ks:List Nat):Prop:=∀ (β:Env) (a:Nat→Nat),(∀ k∈ks,(β k).b=a k)→(l.map fun p=>p.2.r β)=l.map fun p=>p.2.r (adEnv a)
theorem SCon.heap {P : Program} {f : FuncId} {args args' : List SV} {ret ret' : SV} {fr : List Nat} {toks : σ → List (Nat × Tok)} {A : List (Nat → Nat)} {Q : List σ} {i : Nat} {a : Nat → Nat} {q q' : σ} {exi exo : List (Nat × Tok)} (k : Nat) (ks : List Nat)
    (hA:A[i]? = some a) (hQ:Q[i]? = some q) (hb : ∀ q,ByB (toks q) ks) (h:SCon P f args (toks q++exi) ret (toks q'++exo) fr) (hfr : ∀ j∈ks,j∉fr)
    (hi : ∀ p∈exi,∀ j∈p.2.ks,j∉ks) (ho : ∀ p∈exo,∀ j∈p.2.ks,j∉ks)
    (ha : ∀ β β':Env,(∀ j∈ks,(β j).b=a j)→(∀ j,j∉ks→β' j=β j)→args.map (SV.den β)=args'.map (SV.den β'))
    (hr : ∀ β β':Env,(∀ j∈ks,(β j).b=a j)→(∀ j,j∉ks→β' j=β j)→ret.den β=ret'.den β') :
    SCon P f args' ((k,hp k toks A Q)::exi) ret' ((k,hp k toks A (Q.set i q'))::exo) fr:=by
  intro β w F hs
  obtain ⟨FH,FX,e,d,hH,hX⟩:=hs
  obtain ⟨L1,L2,m1,m2⟩:=hpL_mid (toks:=toks) hA hQ
  have hH':Star (hpL toks A Q) w FH:=hH
  rw [m1] at hH'
  obtain ⟨Fi,FR,e1,d1,hE,hR⟩:=Star_mid.1 hH'
  have hE':Star ((toks q).map fun p=>p.2.r (adEnv a)) w Fi:=hE
  let β1:Env:=fun j=>if j∈ks then ⟨a j,undef⟩ else β j
  have hβ1 : ∀ j∈ks,(β1 j).b=a j:=fun j hj=>by simp only [β1,if_pos hj]
  have hβ1' : ∀ j,j∉ks→β j=β1 j:=fun j hj=>by simp only [β1,if_neg hj]
  have eX:(exi.map fun p=>p.2.r β1)=exi.map fun p=>p.2.r β:=List.map_congr_left (fun p hp=>p.2.sup (fun j hj=>(hβ1' j (hi p hp j hj)).symm))
  have hin:Star ((toks q++exi).map fun p=>p.2.r β1) w (fun b=>Fi b∨FX b):=by
    rw [List.map_append]
    refine Star_append.2 ⟨Fi,FX,fun b=>Iff.rfl,fun b h1 h2=>d b ((e1 b).2 (.inl h1)) h2,?_,by rw [eX];exact hX⟩
    rw [hb q β1 a hβ1];exact hE'
  have hcall:=h β1 w _ hin
  rw [ha β1 β hβ1 hβ1'] at hcall
  refine hcall.mono (fun en w' he=>?_)
  obtain ⟨β2,hb2,rfl,F',h2,h3,h4⟩:=he
  have hβ2 : ∀ j∈ks,(β2 j).b=a j:=fun j hj=>by rw [hb2 j (hfr j hj)];exact hβ1 j hj
  let β3:Env:=fun j=>if j∈ks then β j else β2 j
  have hβ3 : ∀ j,j∉ks→β3 j=β2 j:=fun j hj=>by simp only [β3,if_neg hj]
  rw [List.map_append] at h2
  obtain ⟨F1,F2,e2,d2,hT,hO⟩:=Star_append.1 h2
  rw [hb q' β2 a hβ2] at hT
  have eO:(exo.map fun p=>p.2.r β2)=exo.map fun p=>p.2.r β3:=List.map_congr_left (fun p hp=>p.2.sup (fun j hj=>(hβ3 j (ho p hp j hj)).symm))
  have hFR : ∀ b,FR b→¬ F' b:=fun b hb' hf=>by
    rcases h3 b hf with (h | h) | h
    · exact d1 b h hb'
    · exact d b ((e1 b).2 (.inr hb')) h
    · exact absurd (hR.lt hb') (by omega)
  have hR':Star (L1++L2) w' FR:=hR.loc (fun b hb'=>h4.block b (hR.lt hb') (fun h=>by
    rcases h with h | h
    · exact d1 b h hb'
    · exact d b ((e1 b).2 (.inr hb')) h))
  refine ⟨β3,fun j hj=>?_,by rw [hr β2 β3 hβ2 hβ3],fun b=>(F1 b∨FR b)∨F2 b,⟨fun b=>F1 b∨FR b,F2,fun b=>Iff.rfl,?_,?_,by rw [← eO];exact hO⟩,?_,h4.weaken (fun b _ hb'=>?_)⟩
  · by_cases hk:j∈ks
    · simp only [β3,if_pos hk]
    · rw [hβ3 j hk,hb2 j hj,← hβ1' j hk]
  · rintro b (h | h) h'
    · exact d2 b h h'
    · exact hFR b h ((e2 b).2 (.inr h'))
  · show Star (hpL toks A (Q.set i q')) w' _
    rw [m2]
    exact Star_mid.2 ⟨F1,FR,fun b=>Iff.rfl,fun b h h'=>hFR b h' ((e2 b).2 (.inl h)),hT,hR'⟩
  · rintro b ((h | h) | h)
    · rcases h3 b ((e2 b).2 (.inl h)) with (h | h) | h
      · exact .inl ((e b).2 (.inl ((e1 b).2 (.inl h))))
      · exact .inl ((e b).2 (.inr h))
      · exact .inr h
    · exact .inl ((e b).2 (.inl ((e1 b).2 (.inr h))))
    · rcases h3 b ((e2 b).2 (.inr h)) with (h | h) | h
      · exact .inl ((e b).2 (.inl ((e1 b).2 (.inl h))))
      · exact .inl ((e b).2 (.inr h))
      · exact .inr h
  · rcases hb' with h | h
    · exact (e b).2 (.inl ((e1 b).2 (.inl h)))
    · exact (e b).2 (.inr h)
def adr (ks:List Nat) (g:Nat→Nat) (β:Env):Nat→Nat:=fun j=>if j∈ks then (β (g j)).b else 0
def hpN (k:Nat) (toks:σ→List (Nat×Tok)) (A:List (Nat→Nat)) (Q:List σ) (ks:List Nat) (g:Nat→Nat) (q:σ):Tok where
  ks:=ks.map g
  r β:=starRes (hpL toks (A++[adr ks g β]) (Q++[q]))
  sup h:=by
    rename_i β β'
    have:adr ks g β=adr ks g β':=by
      funext j
      unfold adr
      by_cases hj:j∈ks
      · rw [if_pos hj,if_pos hj,h (g j) (List.mem_map_of_mem hj)]
      · rw [if_neg hj,if_neg hj]
    rw [this]
theorem hpL_snoc {toks:σ→List (Nat×Tok)} : ∀ {A:List (Nat→Nat)} {Q:List σ},A.length=Q.length→∀ (a:Nat→Nat) (q:σ),hpL toks (A++[a]) (Q++[q])=hpL toks A Q++[eltRes (toks q) a]
  | [], [], _, a, q => rfl
  | [], _ :: _, h, a, q => by simp at h
  | _ :: _, [], h, a, q => by simp at h
  | x :: A, y :: Q, h, a, q => by
    show eltRes (toks y) x::hpL toks (A++[a]) (Q++[q])=_
    rw [hpL_snoc (by simpa using h)];rfl
theorem Star_perm {A B:List Res} (h:A.Perm B) : ∀ {w:World} {F:Foot},Star A w F→Star B w F:=by
  induction h with
  | nil => intro w F h; exact h
  | cons r _ ih =>
    rintro w F ⟨F1,F2,e,d,h1,h2⟩
    exact ⟨F1,F2,e,d,h1,ih h2⟩
  | swap x y l =>
    intro w F h
    obtain ⟨F1,F2,e,d,h1,G1,G2,e',d',h2,h3⟩:=h
    refine ⟨G1,fun b=>F1 b∨G2 b,fun b=>?_,?_,h2,F1,G2,fun b=>Iff.rfl,fun b h h'=>d b h ((e' b).2 (.inr h')),h1,h3⟩
    · rw [e b,e' b];constructor
      · rintro (h | h | h)
        · exact .inr (.inl h)
        · exact .inl h
        · exact .inr (.inr h)
      · rintro (h | h | h)
        · exact .inr (.inl h)
        · exact .inl h
        · exact .inr (.inr h)
    · rintro b h (h' | h')
      · exact d b h' ((e' b).2 (.inl h))
      · exact d' b h h'
  | trans _ _ ih1 ih2 => intro w F h; exact ih2 (ih1 h)
theorem SCon.perm {P:Program} {f:FuncId} {args:List SV} {ret:SV} {fr:List Nat} {ti ti' to to':List (Nat×Tok)} (h:SCon P f args ti ret to fr) (hi:ti'.Perm ti) (ho:to.Perm to'):SCon P f args ti' ret to' fr:=by
  intro β w F hs
  refine (h β w F (Star_perm (hi.map _) hs)).mono (fun e w' he=>?_)
  obtain ⟨β',h1,h2,F',h3,h4,h5⟩:=he
  exact ⟨β',h1,h2,F',Star_perm (ho.map _) h3,h4,h5⟩
theorem SCon.frame {P:Program} {f:FuncId} {args:List SV} {ret:SV} {fr:List Nat} {ti to:List (Nat×Tok)} (ex:List (Nat×Tok)) (h:SCon P f args ti ret to fr) (hx : ∀ p∈ex,∀ j∈p.2.ks,j∉fr):SCon P f args (ti++ex) ret (to++ex) fr:=by
  intro β w F hs
  rw [List.map_append] at hs
  obtain ⟨F1,F2,e,d,h1,h2⟩:=Star_append.1 hs
  refine (h β w F1 h1).mono (fun en w' he=>?_)
  obtain ⟨β',hb,rfl,F',h3,h4,h5⟩:=he
  have ee:(ex.map fun p=>p.2.r β')=ex.map fun p=>p.2.r β:=List.map_congr_left (fun p hp=>p.2.sup (fun j hj=>hb j (hx p hp j hj)))
  refine ⟨β',hb,rfl,fun b=>F' b∨F2 b,?_,?_,h5.weaken (fun b _ hb=>(e b).2 (.inl hb))⟩
  · rw [List.map_append,ee]
    refine Star_append.2 ⟨F',F2,fun b=>Iff.rfl,fun b h h'=>?_,h3,h2.loc (fun b hb=>h5.block b (h2.lt hb) (fun h=>d b h hb))⟩
    rcases h4 b h with h6 | h6
    · exact d b h6 h'
    · exact absurd (h2.lt h') (by omega)
  · rintro b (h | h)
    · rcases h4 b h with h6 | h6
      · exact .inl ((e b).2 (.inl h6))
      · exact .inr h6
    · exact .inl ((e b).2 (.inr h))
end
end Go.Proofs.YtgjbibabegabnaaGreat.Sx
namespace Go.Proofs.YtgjbibabegabnaaGreat.Sx
open Go
section
variable {P:Program} {n:Nat} {ops:Array Oper} {rest:List Oper} {fs fs':FL} {L L':TL} {ss:List Step}
end
section
variable {P:Program} {n:Nat} {ops:Array Oper} {rest:List Oper} {fs:FL} {L:TL} {K:List Step→FL→TL→Prop} {d:Nat} {az:Array Operand} {ats:Array TypeId} {ty:TypeId} {pos:String} {after:Array Edge} {g:Option (Nat×Bool)} {gr:FL} {f:FuncId} {args:List SV} {ti to:List (Nat×Tok)} {fr:List Nat} {args':Env→List SV}
end
end Go.Proofs.YtgjbibabegabnaaGreat.Sx
namespace Go.Proofs.YtgjbibabegabnaaGreat.Sx
open Go
def SConAt (β:Env) (P:Program) (f:FuncId) (args:List SV) (ti:List (Nat×Tok)) (ret:SV) (to:List (Nat×Tok)) (fr:List Nat):Prop :=
  ∀ (w:World) (F:Foot),Star (ti.map fun p=>p.2.r β) w F→Calls P f (args.map (SV.den β)).toArray w (Ret F w fr β ret to)
theorem adr_congr {ks:List Nat} {g:Nat→Nat} {β β':Env} (h : ∀ j∈ks,β (g j)=β' (g j)):adr ks g β=adr ks g β':=by
  funext j
  unfold adr
  by_cases hj:j∈ks
  · rw [if_pos hj,if_pos hj,h j hj]
  · rw [if_neg hj,if_neg hj]
theorem SCon.late {β:Env} {P:Program} {f:FuncId} {args args2:List SV} {ti ti0 to to0:List (Nat×Tok)} {ret:SV} {fr:List Nat} (ks:List Nat) (g:Nat→Nat) (h:SCon P f args ti0 ret to0 fr) (ha:args2.map (SV.den β)=args.map (SV.den β)) (h1:(ti.map fun p=>p.2.r β)=ti0.map fun p=>p.2.r β) (h2 : ∀ β',adr ks g β'=adr ks g β→(to.map fun p=>p.2.r β')=to0.map fun p=>p.2.r β') (hfr:ks.all (fun j=>!fr.contains (g j))=true):SConAt β P f args2 ti ret to fr:=by
  intro w F hs
  have hc:=h β w F (by rw [← h1];exact hs)
  rw [ha]
  refine hc.mono (fun e w' he=>?_)
  obtain ⟨β',hb,rfl,F',g1,g2⟩:=he
  refine ⟨β',hb,rfl,F',?_,g2⟩
  rw [h2 β' (adr_congr (fun j hj=>hb _ (by have:=List.all_eq_true.1 hfr j hj;simpa using this)))]
  exact g1
theorem SCon.post {P:Program} {f:FuncId} {args:List SV} {ret:SV} {ti to to':List (Nat×Tok)} {fr:List Nat} (h:SCon P f args ti ret to fr) (ho : ∀ β w F,Star (to.map fun p=>p.2.r β) w F→Star (to'.map fun p=>p.2.r β) w F):SCon P f args ti ret to' fr:=by
  intro β w F hs
  refine (h β w F hs).mono (fun e w' he=>?_)
  obtain ⟨β',hb,h1,F',g1,g2⟩:=he
  exact ⟨β',hb,h1,F',ho _ _ _ g1,g2⟩
theorem hpN_r {σ:Type} {toks:σ→List (Nat×Tok)} {A:List (Nat→Nat)} {Q:List σ} {k:Nat} {ks:List Nat} {g:Nat→Nat} {q:σ} {β:Env}:(hpN k toks A Q ks g q).r β=(hp k toks (A++[adr ks g β]) (Q++[q])).r β:=rfl
theorem hp_addS {σ:Type} {toks:σ→List (Nat×Tok)} {A:List (Nat→Nat)} {Q:List σ} {q:σ} {tn:List (Nat×Tok)} {k:Nat} (ks:List Nat) (g:Nat→Nat) (hAQ:A.length=Q.length) (β:Env) (hT:(tn.map fun p=>p.2.r β)=(toks q).map fun p=>p.2.r (adEnv (adr ks g β))) {w:World} {F:Foot} (hs:Star (((k,hp k toks A Q)::tn).map fun p=>p.2.r β) w F):Star ([(k,hpN k toks A Q ks g q)].map fun p=>p.2.r β) w F:=by
  obtain ⟨F1,F2,e,d,h1,h2⟩:=hs
  refine Star_one.2 ?_
  show Star (hpL toks (A++[adr ks g β]) (Q++[q])) w F
  rw [hpL_snoc hAQ]
  refine Star_append.2 ⟨F1,F2,e,d,h1,Star_one.2 ?_⟩
  have:Star (tn.map fun p=>p.2.r β) w F2:=h2
  rw [hT] at this;exact this
def lrowA {α:Type} (k:Nat) (T:TypeId) (ks:List Nat) (g:Nat→Nat) (e:(Nat→Nat)→α→List Value) (s:Nat) (l:List α):Tok where
  ks:=k::ks.map g
  r β:=(lrow k T (e (adr ks g β)) s l).r β
  sup h:=by
    rename_i β β'
    rw [adr_congr (ks:=ks) (g:=g) (β:=β) (β':=β') (fun j hj=>h (g j) (List.mem_cons_of_mem _ (List.mem_map_of_mem hj)))]
    exact (lrow k T (e (adr ks g β')) s l).sup (fun j hj=>h j (by cases hj with | head=>exact List.mem_cons_self | tail _ h=>cases h))
theorem lrowA_r {α:Type} {k:Nat} {T:TypeId} {ks:List Nat} {g:Nat→Nat} {e:(Nat→Nat)→α→List Value} {s:Nat} {l:List α} {β:Env}:(lrowA k T ks g e s l).r β=(lrow k T (e (adr ks g β)) s l).r β:=rfl
theorem mc {β:Env} {x y:SV} {l l':List SV} (h:x.den β=y.den β) (t:l.map (SV.den β)=l'.map (SV.den β)):(x::l).map (SV.den β)=(y::l').map (SV.den β):=by rw [List.map_cons,List.map_cons,h,t]
theorem At.fixA {σ α : Type} {C : Ctx} {fs : FL} {L : TL} {R : Act → World → Prop} {toks : σ → List (Nat × Tok)} {A : List (Nat → Nat)} {Q : List σ} {ks : List Nat} {g : Nat → Nat} {q : σ} {t j0 T s : Nat} {e : (Nat → Nat) → α → List Value} {l : List α} (k r : Nat) (hk : lkT L k = some (hpN k toks A Q ks g q)) (hr : lkT L r = some (lrowA r T ks g e s l)) (hl : lk fs t = some (SV.p (g j0) 0)) (hj : j0 ∈ ks)
    (h : ∀ a:Nat→Nat,At C ((t,SV.raw (ptr (a j0) 0))::fs) ((r,some (lrow r T (e a) s l))::(k,some (hp k toks (A++[a]) (Q++[q])))::L) R):At C fs L R:=by
  rintro a w ⟨β,F,hβ,hfs,hlt,hn,hd,hs,hF,hM⟩
  refine h (adr ks g β) a w ⟨β,F,hβ,fun t' x hx=>?_,fun t' ht=>?_,hn,hd,?_,hF,hM⟩
  · rw [lk_cons] at hx
    by_cases e:t'=t
    · subst e
      simp at hx;subst hx
      rw [hfs _ _ hl]
      simp [SV.den,Av.den,Cl.den,ptr,adr,hj]
    · rw [upd_ne _ _ e] at hx
      exact hfs _ _ hx
  · rw [lk_cons] at ht
    by_cases e:t'=t
    · subst e;exact hlt _ (by rw [hl];rfl)
    · rw [upd_ne _ _ e] at ht;exact hlt _ ht
  · obtain ⟨φ,h1,h2,h3,h4⟩:=hs
    refine ⟨φ,fun j tk hj=>?_,fun j hj=>?_,h3,h4⟩
    · rw [lkT_cons] at hj
      by_cases e:j=r
      · subst e
        simp at hj;subst hj
        have h5:=h1 j (lrowA j T ks g e s l) hr
        exact h5
      · rw [upd_ne _ _ e,lkT_cons] at hj
        by_cases e:j=k
        · subst e
          simp at hj;subst hj
          have h5:=h1 j (hpN j toks A Q ks g q) hk
          exact h5
        · rw [upd_ne _ _ e] at hj
          exact h1 _ _ hj
    · rw [lkT_cons] at hj
      by_cases e:j=r
      · subst e;simp at hj
      · rw [upd_ne _ _ e,lkT_cons] at hj
        by_cases e:j=k
        · subst e;simp at hj
        · rw [upd_ne _ _ e] at hj
          exact h2 _ hj
section
variable {P:Program} {n:Nat} {ops:Array Oper} {rest:List Oper} {fs fs':FL} {L L':TL} {ss:List Step}
theorem Run.callA {d : Nat} {c : Call} {ty : TypeId} {pos : String} {after : Array Edge} {g : Option (Nat × Bool)} {gr : FL} {f : FuncId} {args : List SV} {ret : SV} {fr : List Nat} (l : List (Operand × SV)) (tr ti to : List (Nat × Tok))
    (hs : ∀ (β:Env) (w:World) (S:Foot),Star (tr.map fun p=>p.2.r β) w S→SConAt β P f args ((0,rd S w)::ti) ret ((0,rd S w)::to) fr)
    (hc:ToFn P c ty l f args) (hg:Gd ops ⟨some d,.call c,ty,pos,after,g⟩ fs gr) (hev : ∀ p∈l,ev fs p.1=some p.2)
    (htk : ∀ p∈tr++ti,lkT L p.1=some p.2) (hnd:((tr++ti).map (·.1)).Nodup) (hnd':((tr++to).map (·.1)).Nodup) (hsub : ∀ p∈ti,p.1∈to.map (·.1)) (hout : ∀ p∈to,p.1∈ti.map (·.1)∨lkT L p.1=none)
    (hfr:frB fr fs L=true) (hn:Nat.blt d n=true)
    (h:Run P n ops rest ((d,ret)::fs) (to.map (fun p=>(p.1,some p.2))++L) ss fs' L'):Run P n ops (⟨some d,.call c,ty,pos,after,g⟩::rest) fs L (⟨gr++opds l,some d,ret,tr,ti,to,fr⟩::ss) fs' L':=by
  obtain ⟨f1,f2,f3⟩:=frB_spec hfr
  refine Run.cons ?_ ?_ ?_ (fun j=>?_) h
  · intro β a w G K Q hrs hsz hst hK
    have hw:=hg.wanted hrs hsz
    unfold opW Oper.wp
    rw [if_pos hw]
    have h1:=hc β a.eval w (opds_eval hg hev hrs)
    simp only [execOp]
    rw [h1,Oper.upon_enter]
    rw [List.map_append] at hst
    obtain ⟨S,F2,e,dj,hS,hT⟩:=Star_append.1 hst
    have hin:Star (((0,rd S w)::ti).map fun p=>p.2.r β) w G:=⟨S,F2,e,dj,⟨fun b=>Iff.rfl,fun b hb=>⟨hS.lt hb,rfl⟩⟩,hT⟩
    have hcall:=hs β w S hS w G hin
    refine hcall.mono (fun e' w' he=>?_)
    obtain ⟨β',hb,rfl,F',h2,h3,h4⟩:=he
    obtain ⟨S',F3,eF,dF,hS',hT'⟩:=h2
    have hS2:Star (tr.map fun p=>p.2.r β') w' S:=by
      have:(tr.map fun p=>p.2.r β')=tr.map fun p=>p.2.r β:=List.map_congr_left (fun p hp=>(p.2.sup (fun k hk=>hb k (f3 p.1 p.2 (htk p (List.mem_append_left _ hp)) k hk))))
      rw [this]
      exact hS.loc (fun b hb=>(hS'.2 b hb).2)
    refine hK β' w' F' hb ?_ h3 h4
    rw [List.map_append]
    have eS : ∀ b,S' b↔S b:=hS'.1
    exact Star_append.2 ⟨S,F3,fun b=>by rw [eF b,eS b],fun b h1 h2=>dF b ((eS b).2 h1) h2,hS2,hT'⟩
  · refine ⟨fun t z hz=>?_,fun d' hd'=>?_,htk,hnd,hnd',hout,f1,f2,fun j t hj _=>f3 j t hj⟩
    · rw [lk_append] at hz
      cases hx':lk gr t with
      | some z' => rw [hx'] at hz; simp at hz; subst hz; exact hg.fs hx'
      | none => rw [hx'] at hz; simp at hz; exact opds_fs hev hz
    · simp at hd';subst hd'
      rw [Nat.blt_eq] at hn
      exact hn
  · simp only [Step.outF,lk_cons]
  · rw [Step.outM_eq]
    have e1 : ∀ (to:List (Nat×Tok)),lkT (to.map (fun p=>(p.1,some p.2))++L) j=(lkP to j).or (lkT L j):=by
      intro to
      induction to with
      | nil => simp [lkP]
      | cons p to ih =>
        rw [List.map_cons,List.cons_append,lkT_cons]
        simp only [upd,lkP]
        split <;> simp [ih]
    rw [e1]
    cases hp:lkP to j with
    | some x => rfl
    | none =>
      simp only [Option.none_or]
      rw [if_neg]
      intro hm
      obtain ⟨p,hp',rfl⟩:=List.mem_map.1 hm
      obtain ⟨q,hq,e⟩:=List.mem_map.1 (hsub p hp')
      have : ∀ l:List (Nat×Tok),q∈l→lkP l p.1≠none:=by
        intro l
        induction l with
        | nil => intro h; cases h
        | cons r l ih =>
          intro h
          simp only [lkP]
          split
          · simp
          · rename_i hne
            rcases List.mem_cons.1 h with rfl | h
            · exact absurd e.symm hne
            · exact ih h
      exact this to hq hp
end
section
variable {P:Program} {n:Nat} {ops:Array Oper} {rest:List Oper} {fs:FL} {L:TL} {K:List Step→FL→TL→Prop} {d:Nat} {az:Array Operand} {ats:Array TypeId} {ty:TypeId} {pos:String} {after:Array Edge} {g:Option (Nat×Bool)} {gr:FL} {f:FuncId} {ti to:List (Nat×Tok)} {fr:List Nat} {ret:SV}
theorem K.cA (hf : fnB P f = true) (ks : List Nat) (hs : ∀ (β : Env) (w : World) (S : Foot), Star ((getT L ks).map fun p => p.2.r β) w S → SConAt β P f ((opl fs az).map (·.2)) ((0, rd S w) :: ti) ret ((0, rd S w) :: to) fr) (hg : Gd ops ⟨some d, .call ⟨.value (.func f), az, ats⟩, ty, pos, after, g⟩ fs gr)
    (hev:az.toList.all (fun o=>(ev fs o).isSome)=true) (htk:getT L (ti.map (·.1))=ti)
    (hb:(ndB ((getT L ks++ti).map (·.1))&&(ndB ((getT L ks++to).map (·.1))&&(ti.all (fun p=>(to.map (·.1)).contains p.1)&&(to.all (fun p=>(ti.map (·.1)).contains p.1 || (lkT L p.1).isNone)&&(frB fr fs L&&Nat.blt d n)))))=true)
    (h:RunK P n ops rest ((d,ret)::fs) (to.map (fun p=>(p.1,some p.2))++L) (fun ss fs' L'=>K (⟨gr++opds (fnl f fs az),some d,ret,getT L ks,ti,to,fr⟩::ss) fs' L')):RunK P n ops (⟨some d,.call ⟨.value (.func f),az,ats⟩,ty,pos,after,g⟩::rest) fs L K:=by
  simp only [Bool.and_eq_true] at hb
  have ht:AllT L (getT L ks++ti):=by
    have : ∀ l:List (Nat×Tok),AllT L l→AllT L (l++ti):=fun l=>by
      induction l with
      | nil => intro _; exact getT_of htk
      | cons p l ih => intro h; exact ⟨h.1, ih h.2⟩
    exact this _ (getT_all _)
  refine RunK.of (fun _ _ _ h=>Run.callA (fnl f fs az) (getT L ks) ti to hs (fnl_to hf) hg (fnl_all hev).spec ht.spec (ndB_spec hb.1) (ndB_spec hb.2.1) (fun p hp=>by simpa using List.all_eq_true.1 hb.2.2.1 p hp) (fun p hp=>by
    have:=List.all_eq_true.1 hb.2.2.2.1 p hp
    rw [Bool.or_eq_true] at this
    rcases this with h | h
    · exact .inl (by simpa using h)
    · exact .inr (by simpa using h)) hb.2.2.2.2.1 hb.2.2.2.2.2 h) h
end
end Go.Proofs.YtgjbibabegabnaaGreat.Sx
namespace Go.Proofs.YtgjbibabegabnaaGreat.Sx
open Go
def frOk (new old:List Nat):Bool:=ndB new&&new.all fun k=>!old.contains k
theorem rn_nd2 {f:Nat→Nat} {fr olds:List Nat} (hd:frOk (fr.map f) (olds.map f)=true):(fr.map f).Nodup:=by
  unfold frOk at hd
  rw [Bool.and_eq_true] at hd
  exact ndB_spec hd.1
theorem rn_ks2 {f:Nat→Nat} {ks fr olds:List Nat} (hd:frOk (fr.map f) (olds.map f)=true) (hk:ks.all (fun k=>fr.contains k || olds.contains k)=true) : ∀ k∈ks,k∉fr→f k∉fr.map f:=by
  unfold frOk at hd
  rw [Bool.and_eq_true] at hd
  intro k hk1 hk2 hm
  have h1:=List.all_eq_true.1 hd.2 _ hm
  have h2:=List.all_eq_true.1 hk k hk1
  simp only [Bool.or_eq_true,List.contains_iff_mem] at h2
  rcases h2 with h2 | h2
  · exact hk2 h2
  · have h3:(olds.map f).contains (f k)=true:=by simpa only [List.contains_iff_mem] using List.mem_map_of_mem (f:=f) h2
    rw [h3] at h1;cases h1
inductive PT (ω α:Type) where
  | nil : PT ω α
  | node (op : ω) (gone : Bool) (lf rt : PT ω α) (n : Int) (q : α) : PT ω α
namespace PT
section
variable {ω α:Type}
def isNil:PT ω α→Bool
  | .nil => true
  | .node .. => false
def lf:PT ω α→PT ω α
  | .nil => .nil
  | .node _ _ l _ _ _ => l
def rt:PT ω α→PT ω α
  | .nil => .nil
  | .node _ _ _ r _ _ => r
def gone:PT ω α→Bool
  | .nil => false
  | .node _ g _ _ _ _ => g
def n:PT ω α→Int
  | .nil => 0
  | .node _ _ _ _ n _ => n
def op [Inhabited ω]:PT ω α→ω
  | .nil => default
  | .node o _ _ _ _ _ => o
def q [Inhabited α]:PT ω α→α
  | .nil => default
  | .node _ _ _ _ _ q => q
theorem eta [Inhabited ω] [Inhabited α] {t:PT ω α} (h:t.isNil=false):t=.node t.op t.gone t.lf t.rt t.n t.q:=by
  cases t with
  | nil => cases h
  | node => rfl
end
end PT
def pureRes (p:Prop):Res where
  holds _ F:=(∀ b,¬ F b)∧p
  loc _ h:=h
  lt h hb:=absurd hb (h.1 _)
def exR {X:Type} (f:X→Res):Res where
  holds w F:=∃ x,(f x).holds w F
  loc hw h:=by obtain ⟨x,h⟩:=h;exact ⟨x,(f x).loc hw h⟩
  lt h hb:=by obtain ⟨x,h⟩:=h;exact (f x).lt h hb
theorem Star_pure {p:Prop} {L:List Res} {w:World} {F:Foot}:Star (pureRes p::L) w F↔p∧Star L w F:=by
  constructor
  · rintro ⟨F1,F2,e,d,⟨h1,h2⟩,h3⟩
    have:F=F2:=funext fun b=>propext (by rw [e b];exact ⟨fun h=>h.elim (fun h'=>absurd h' (h1 b)) id,.inr⟩)
    rw [this];exact ⟨h2,h3⟩
  · rintro ⟨h1,h2⟩
    exact ⟨fun _=>False,F,fun b=>by simp,fun _ h=>h.elim,⟨fun _ h=>h,h1⟩,h2⟩
section
variable {ω α:Type}
def ptRes (enc:ω→List Value) (pay:α→Value→Res) (T:TypeId):PT ω α→Value→Res
  | .nil, v => pureRes (v = .pointer none)
  | .node op g l r n q, v => exR fun z : Nat × Value × Value × Value => starRes [pureRes (v = ptr z.1 0), blkRes z.1 (enc op ++ [.bool g, one1 z.2.1, one1 z.2.2.1, .int .i64 n, z.2.2.2]) T, ptRes enc pay T l (one1 z.2.1), ptRes enc pay T r (one1 z.2.2.1), pay q z.2.2.2]
def ptT (enc:ω→List Value) (pay:α→Value→Res) (T:TypeId) (k:Nat) (t:PT ω α):Tok where
  ks:=[k]
  r β:=ptRes enc pay T t (one1 (β k).v)
  sup h:=by rw [h _ (List.mem_cons_self)]
def eqP (a k:Nat):Tok where
  ks:=[a,k]
  r β:=pureRes (one1 (β k).v=ptr (β a).b 0)
  sup h:=by rw [h a (by simp),h k (by simp)]
structure Pay (pay:α→Value→Res) (q:α) (pt:List (Nat×Tok)) (pc:Cl) (fr:List Nat):Prop where
  op : ∀ (β:Env) (w:World) (F:Foot) (v:Value),(pay q v).holds w F→∃ β':Env,(∀ j,j∉fr→β' j=β j)∧Star (pt.map fun p=>p.2.r β') w F∧pc.den β'=v
structure PayC (pay:α→Value→Res) (q:α) (pt:List (Nat×Tok)) (pc:Cl):Prop where
  cl : ∀ (β:Env) (w:World) (F:Foot),Star (pt.map fun p=>p.2.r β) w F→(pay q (pc.den β)).holds w F
variable {enc:ω→List Value} {pay:α→Value→Res} {T:TypeId}
def ndC (enc:ω→List Value) (op:ω) (g:Bool) (kl kr:Nat) (n:Int) (pc:Cl):List Cl:=(enc op).map .v++[.v (.bool g),.nv kl,.nv kr,.v (.int .i64 n),pc]
theorem ndC_den (op:ω) (g:Bool) (kl kr:Nat) (n:Int) (pc:Cl) (β:Env):(ndC enc op g kl kr n pc).map (Cl.den β)=enc op++[.bool g,one1 (β kl).v,one1 (β kr).v,.int .i64 n,pc.den β]:=by
  unfold ndC
  rw [List.map_append,List.map_map]
  congr 1
  have:((Cl.den β) ∘ Cl.v)=id:=funext fun x=>rfl
  rw [this,List.map_id]
theorem PT.open [Inhabited ω] [Inhabited α] {t : PT ω α} {pt : List (Nat × Tok)} {pc : Cl} {fr : List Nat} (k ka kl kr kp : Nat) (ht : t.isNil = false) (hp : Pay pay t.q pt pc fr) (hnd : ndB (k :: ka :: kl :: kr :: fr) = true) :
    Ent [(k,ptT enc pay T k t)] ((ka,blk ka (ndC enc t.op t.gone kl kr t.n pc) T)::(kl,ptT enc pay T kl t.lf)::(kr,ptT enc pay T kr t.rt)::(kp,eqP ka k)::pt) (ka::kl::kr::fr):=by
  have hnd':=ndB_spec hnd
  cases t with
  | nil => cases ht
  | node op g l r n q =>
    intro β w F hs
    obtain ⟨z,hz⟩:=Star_one.1 hs
    obtain ⟨hv,F1,F2,e1,d1,hb,F3,F4,e2,d2,hl,F5,F6,e3,d3,hr,hq⟩:=Star_pure.1 hz
    have hq:=Star_one.1 hq
    let β1:Env:=upd (upd (upd β ka ⟨z.1,undef⟩) kl ⟨0,z.2.1⟩) kr ⟨0,z.2.2.1⟩
    obtain ⟨β2,hb2,hst,hpc⟩:=hp.op β1 w F6 z.2.2.2 hq
    simp only [List.nodup_cons,List.mem_cons,not_or] at hnd'
    obtain ⟨⟨n1,n2,n3,n4⟩,⟨n5,n6,n7⟩,⟨n8,n9⟩,n10,_⟩:=hnd'
    have eka:β2 ka=⟨z.1,undef⟩:=by rw [hb2 ka n7];show upd _ kr _ ka=_;rw [upd_ne _ _ n6];show upd _ kl _ ka=_;rw [upd_ne _ _ n5,upd_same]
    have ekl:β2 kl=⟨0,z.2.1⟩:=by rw [hb2 kl n9];show upd _ kr _ kl=_;rw [upd_ne _ _ n8,upd_same]
    have ekr:β2 kr=⟨0,z.2.2.1⟩:=by rw [hb2 kr n10];show upd _ kr _ kr=_;rw [upd_same]
    have ek:β2 k=β k:=by rw [hb2 k n4];show upd _ kr _ k=_;rw [upd_ne _ _ n3];show upd _ kl _ k=_;rw [upd_ne _ _ n2];show upd _ ka _ k=_;rw [upd_ne _ _ n1]
    refine ⟨β2,fun j hj=>?_,F,fun _ h=>h,F1,F2,e1,d1,?_,F3,F4,e2,d2,?_,F5,F6,e3,d3,?_,?_⟩
    · simp only [List.mem_cons,not_or] at hj
      rw [hb2 j hj.2.2.2]
      show upd _ kr _ j=_
      rw [upd_ne _ _ hj.2.2.1]
      show upd _ kl _ j=_
      rw [upd_ne _ _ hj.2.1]
      show upd _ ka _ j=_
      rw [upd_ne _ _ hj.1]
    · show (blkRes (β2 ka).b _ T).holds w F1
      rw [ndC_den,eka,ekl,ekr,hpc];exact hb
    · show (ptRes enc pay T l (one1 (β2 kl).v)).holds w F3
      rw [ekl];exact hl
    · show (ptRes enc pay T r (one1 (β2 kr).v)).holds w F5
      rw [ekr];exact hr
    · refine Star_pure.2 ⟨?_,hst⟩
      rw [ek,eka];exact hv
theorem PT.close {op : ω} {g : Bool} {l r : PT ω α} {n : Int} {q : α} {pt : List (Nat × Tok)} {pc : Cl} (k ka kl kr kp : Nat) (hp : PayC pay q pt pc) :
    Ent ((ka,blk ka (ndC enc op g kl kr n pc) T)::(kl,ptT enc pay T kl l)::(kr,ptT enc pay T kr r)::(kp,eqP ka k)::pt) [(k,ptT enc pay T k (.node op g l r n q)),(kp,eqP ka k)] []:=by
  rintro β w F ⟨F1,F2,e1,d1,hb,F3,F4,e2,d2,hl,F5,F6,e3,d3,hr,hq⟩
  obtain ⟨hv,hst⟩:=Star_pure.1 hq
  have hb':(blkRes (β ka).b ((ndC enc op g kl kr n pc).map (Cl.den β)) T).holds w F1:=hb
  rw [ndC_den] at hb'
  refine ⟨β,fun _ _=>rfl,F,fun _ h=>h,F,fun _=>False,fun b=>by simp,fun _ _ h=>h,⟨((β ka).b,(β kl).v,(β kr).v,pc.den β),Star_pure.2 ⟨hv,F1,F2,e1,d1,hb',F3,F4,e2,d2,hl,F5,F6,e3,d3,hr,Star_one.2 (hp.cl β w F6 hst)⟩⟩,Star_one.2 ⟨fun _ h=>h,hv⟩⟩
theorem PT.closeE [Inhabited ω] [Inhabited α] {t : PT ω α} (ht : t.isNil = false) {pt : List (Nat × Tok)} {pc : Cl} (k ka kl kr kp : Nat) (hp : PayC pay t.q pt pc) :
    Ent ((ka,blk ka (ndC enc t.op t.gone kl kr t.n pc) T)::(kl,ptT enc pay T kl t.lf)::(kr,ptT enc pay T kr t.rt)::(kp,eqP ka k)::pt) [(k,ptT enc pay T k t),(kp,eqP ka k)] []:=by
  have h:=PT.close (enc:=enc) (T:=T) (op:=t.op) (g:=t.gone) (l:=t.lf) (r:=t.rt) (n:=t.n) k ka kl kr kp hp
  rw [← PT.eta ht] at h
  exact h
theorem PT.close0 {op : ω} {g : Bool} {l r : PT ω α} {n : Int} {q : α} {pt : List (Nat × Tok)} {pc : Cl} (k ka kl kr kp : Nat) (hp : PayC pay q pt pc) (hne : Nat.beq ka k = false) :
    Ent ((ka,blk ka (ndC enc op g kl kr n pc) T)::(kl,ptT enc pay T kl l)::(kr,ptT enc pay T kr r)::pt) [(k,ptT enc pay T k (.node op g l r n q)),(kp,eqP ka k)] [k]:=by
  rintro β w F ⟨F1,F2,e1,d1,hb,F3,F4,e2,d2,hl,F5,F6,e3,d3,hr,hst⟩
  have hb':(blkRes (β ka).b ((ndC enc op g kl kr n pc).map (Cl.den β)) T).holds w F1:=hb
  rw [ndC_den] at hb'
  have hne':ka≠k:=fun h=>by rw [h,Nat.beq_refl] at hne;cases hne
  have hv:one1 (upd β k ⟨0,ptr (β ka).b 0⟩ k).v=ptr (upd β k ⟨0,ptr (β ka).b 0⟩ ka).b 0:=by rw [upd_same,upd_ne _ _ hne'];rfl
  refine ⟨upd β k ⟨0,ptr (β ka).b 0⟩,fun j hj=>upd_ne _ _ (by simpa using hj),F,fun _ h=>h,F,fun _=>False,fun b=>by simp,fun _ _ h=>h,⟨((β ka).b,(β kl).v,(β kr).v,pc.den β),Star_pure.2 ⟨?_,F1,F2,e1,d1,hb',F3,F4,e2,d2,hl,F5,F6,e3,d3,hr,Star_one.2 (hp.cl β w F6 hst)⟩⟩,Star_one.2 ⟨fun _ h=>h,hv⟩⟩
  rw [hv,upd_ne _ _ hne']
theorem PT.nilT (k:Nat):Ent [] [(k,ptT enc pay T k (.nil:PT ω α))] [k]:=by
  intro β w F hs
  exact ⟨upd β k ⟨0,.pointer none⟩,fun j hj=>upd_ne _ _ (by simpa using hj),F,fun _ h=>h,Star_one.2 ⟨hs,by rw [upd_same];rfl⟩⟩
theorem At.alt {C : Ctx} {fs : FL} {L : TL} {R : Act → World → Prop} {t kp : Nat} {x y : SV} {tk : Tok} (hl : lk fs t = some x) (hk : lkT L kp = some tk)
    (he : ∀ (β:Env) (w:World) (F:Foot),(tk.r β).holds w F→x.den β=y.den β) (h:At C ((t,y)::fs) L R):At C fs L R:=by
  rintro a w ⟨β,F,hβ,hfs,hlt,hn,hd,hs,hF,hM⟩
  obtain ⟨φ,h1,h2,h3,h4⟩:=hs
  refine h a w ⟨β,F,hβ,fun t' x' hx=>?_,fun t' ht=>?_,hn,hd,⟨φ,h1,h2,h3,h4⟩,hF,hM⟩
  · rw [lk_cons] at hx
    by_cases e:t'=t
    · subst e
      simp at hx;subst hx
      rw [hfs _ _ hl]
      exact he β w _ (h1 kp tk hk)
    · rw [upd_ne _ _ e] at hx
      exact hfs _ _ hx
  · rw [lk_cons] at ht
    by_cases e:t'=t
    · subst e;exact hlt _ (by rw [hl];rfl)
    · rw [upd_ne _ _ e] at ht;exact hlt _ ht
theorem At.toP {C:Ctx} {fs:FL} {L:TL} {R:Act→World→Prop} {t a k:Nat} (kp:Nat) (hl:lk fs t=some (.a (.c (.nv k)))) (hk:lkT L kp=some (eqP a k)) (h:At C ((t,SV.p a 0)::fs) L R):At C fs L R :=
  At.alt (y:=SV.p a 0) hl hk (fun β w F h=>h.2) h
theorem At.toN {C:Ctx} {fs:FL} {L:TL} {R:Act→World→Prop} {t a k:Nat} (kp:Nat) (hl:lk fs t=some (SV.p a 0)) (hk:lkT L kp=some (eqP a k)) (h:At C ((t,.a (.c (.nv k)))::fs) L R):At C fs L R :=
  At.alt (y:=.a (.c (.nv k))) hl hk (fun β w F h=>h.2.symm) h
theorem At.nilN {C:Ctx} {fs:FL} {L:TL} {R:Act→World→Prop} {t k:Nat} (hl:lk fs t=some (SV.raw (.pointer none))) (hk:lkT L k=some (ptT enc pay T k (.nil:PT ω α))) (h:At C ((t,.a (.c (.nv k)))::fs) L R):At C fs L R :=
  At.alt (y:=.a (.c (.nv k))) hl hk (fun β w F h=>h.2.symm) h
theorem Ent.nilC {b:Nat} {cs cs':List Cl} {Tb:TypeId} {k:Nat} (he : ∀ β:Env,one1 (β k).v=.pointer none→cs.map (Cl.den β)=cs'.map (Cl.den β)):Ent [(b,blk b cs Tb),(k,ptT enc pay T k (.nil:PT ω α))] [(b,blk b cs' Tb),(k,ptT enc pay T k (.nil:PT ω α))] []:=by
  rintro β w F ⟨F1,F2,e,d,h1,h2⟩
  have h3:=(Star_one.1 h2).2
  refine ⟨β,fun _ _=>rfl,F,fun _ h=>h,F1,F2,e,d,?_,h2⟩
  show (blkRes (β b).b (cs'.map (Cl.den β)) Tb).holds w F1
  rw [← he β h3];exact h1
theorem ptT_ren {f:Nat→Nat} {k k':Nat} {t:PT ω α} (h:f k'=k):RenT f (ptT enc pay T k' t) (ptT enc pay T k t):=by
  subst h;intro β;rfl
end
section
variable {ω α:Type} {enc:ω→List Value} {pay:α→Value→Res} {T0:TypeId}
variable {P:Program} {n:Nat} {ops:Array Oper} {rest:List Oper} {fs fs':FL} {L L':TL} {ss:List Step} {K:List Step→FL→TL→Prop}
theorem pt_val {t:PT ω α} {v:Value} {w:World} {F:Foot} (h:(ptRes enc pay T0 t v).holds w F):(t.isNil=true∧v=.pointer none)∨(t.isNil=false∧∃ b,v=ptr b 0):=by
  cases t with
  | nil => exact .inl ⟨rfl, h.2⟩
  | node =>
    obtain ⟨z,hz⟩:=h
    exact .inr ⟨rfl,z.1,(Star_pure.1 hz).1⟩
theorem Run.eqnT {d k : Nat} {op : BinOp} {t ty : TypeId} {x z : Operand} {T : TypeId} {pos : String} {after : Array Edge} {g : Option (Nat × Bool)} {gr : FL} {tr : PT ω α} {V : Bool} (hg : Gd ops ⟨some d, .binOp op t x z ty, T, pos, after, g⟩ fs gr)
    (hx:ev fs x=some (.a (.c (.nv k)))) (hz:ev fs z=some (SV.raw (.pointer none))) (hk:lkT L k=some (ptT enc pay T0 k tr))
    (hr:(∀ a w,tr.isNil=false→(do eqGuard op t x z (.pointer (some a)) (.pointer none);binOp op t (.pointer (some a)) (.pointer none):Sem Value).run P w=.ok (.bool V) w)∧(∀ w,tr.isNil=true→(do eqGuard op t x z (.pointer none) (.pointer none);binOp op t (.pointer none) (.pointer none):Sem Value).run P w=.ok (.bool V) w)) (hn:Nat.blt d n=true)
    (h:Run P n ops rest ((d,SV.b V)::fs) L ss fs' L'):Run P n ops (⟨some d,.binOp op t x z ty,T,pos,after,g⟩::rest) fs L (⟨gr++opds [(x,.a (.c (.nv k))),(z,SV.raw (.pointer none))],some d,SV.b V,[(k,ptT enc pay T0 k tr)],[],[],[]⟩::ss) fs' L' :=
  Run.pureR [(x,.a (.c (.nv k))),(z,SV.raw (.pointer none))] (SV.b V) [(k,ptT enc pay T0 k tr)] rfl hg (fun p hp=>by simp at hp;rcases hp with rfl | rfl <;> assumption) (fun p hp=>by simp at hp;subst hp;exact hk) (by simp) hn (fun β ρ w F hs hρ=>by
    have h1:ρ x=one1 (β k).v:=hρ (x,.a (.c (.nv k))) (by simp)
    have h2:ρ z=.pointer none:=hρ (z,SV.raw (.pointer none)) (by simp)
    have h3:(ptRes enc pay T0 tr (one1 (β k).v)).holds w F:=Star_one.1 hs
    rcases pt_val h3 with ⟨e1,e2⟩ | ⟨e1,b,e2⟩
    · rw [e2] at h1
      simp only [execOp,h1,h2]
      rw [run_bind_ok (hr.2 w e1)];rfl
    · rw [e2] at h1
      simp only [execOp,h1,h2,ptr]
      rw [run_bind_ok (hr.1 _ w e1)];rfl) h
theorem K.eqnT {d k : Nat} {op : BinOp} {t ty : TypeId} {x z : Operand} {T : TypeId} {pos : String} {after : Array Edge} {g : Option (Nat × Bool)} {gr : FL} {tr : PT ω α} {V : Bool} (hg : Gd ops ⟨some d, .binOp op t x z ty, T, pos, after, g⟩ fs gr)
    (hx:ev fs x=some (.a (.c (.nv k)))) (hz:ev fs z=some (SV.raw (.pointer none))) (hk:lkT L k=some (ptT enc pay T0 k tr))
    (hr:(∀ a w,tr.isNil=false→(do eqGuard op t x z (.pointer (some a)) (.pointer none);binOp op t (.pointer (some a)) (.pointer none):Sem Value).run P w=.ok (.bool V) w)∧(∀ w,tr.isNil=true→(do eqGuard op t x z (.pointer none) (.pointer none);binOp op t (.pointer none) (.pointer none):Sem Value).run P w=.ok (.bool V) w)) (hn:Nat.blt d n=true)
    (h:RunK P n ops rest ((d,SV.b V)::fs) L (fun ss fs' L'=>K (⟨gr++opds [(x,.a (.c (.nv k))),(z,SV.raw (.pointer none))],some d,SV.b V,[(k,ptT enc pay T0 k tr)],[],[],[]⟩::ss) fs' L')):RunK P n ops (⟨some d,.binOp op t x z ty,T,pos,after,g⟩::rest) fs L K :=
  RunK.of (fun _ _ _ h=>Run.eqnT hg hx hz hk hr hn h) h
theorem en_eql {P:Program} {T e:TypeId} {x z:Operand} (tr:PT ω α) (h:P.underlying T=some (.pointer e)):(∀ a w,tr.isNil=false→(do eqGuard .eql T x z (.pointer (some a)) (.pointer none);binOp .eql T (.pointer (some a)) (.pointer none):Sem Value).run P w=.ok (.bool tr.isNil) w)∧(∀ w,tr.isNil=true→(do eqGuard .eql T x z (.pointer none) (.pointer none);binOp .eql T (.pointer none) (.pointer none):Sem Value).run P w=.ok (.bool tr.isNil) w) :=
  ⟨fun a w h1=>by rw [h1];exact pn_eql_some h a w,fun w h1=>by rw [h1];exact pn_eql_none h w⟩
theorem en_neq {P:Program} {T e:TypeId} {x z:Operand} (tr:PT ω α) (h:P.underlying T=some (.pointer e)):(∀ a w,tr.isNil=false→(do eqGuard .neq T x z (.pointer (some a)) (.pointer none);binOp .neq T (.pointer (some a)) (.pointer none):Sem Value).run P w=.ok (.bool !tr.isNil) w)∧(∀ w,tr.isNil=true→(do eqGuard .neq T x z (.pointer none) (.pointer none);binOp .neq T (.pointer none) (.pointer none):Sem Value).run P w=.ok (.bool !tr.isNil) w) :=
  ⟨fun a w h1=>by rw [h1];exact pn_neq_some h a w,fun w h1=>by rw [h1];exact pn_neq_none h w⟩
theorem Run.load1P (Y : Tys P) (kp : Nat) {d : Nat} {T : TypeId} {x : Operand} {ty : TypeId} {pos : String} {after : Array Edge} {g : Option (Nat × Bool)} {gr : FL} {k off a kk : Nat} {z : Value} {cs : List Cl} {Tb : TypeId} (hg : Gd ops ⟨some d, .load T x, ty, pos, after, g⟩ fs gr)
    (hx:ev fs x=some (SV.p k off)) (hl:lkT L k=some (blk k cs Tb)) (hk:lkT L kp=some (eqP a kk)) (hne:Nat.beq k kp=false) (hT:Y.f T=.one z) (hv:cs[off]? = some (.nv kk)) (hn:Nat.blt d n=true)
    (h:Run P n ops rest ((d,SV.p a 0)::fs) L ss fs' L'):Run P n ops (⟨some d,.load T x,ty,pos,after,g⟩::rest) fs L (⟨gr++opds [(x,SV.p k off)],some d,SV.p a 0,[(k,blk k cs Tb),(kp,eqP a kk)],[],[],[]⟩::ss) fs' L' :=
  have hne':k≠kp:=fun h=>by rw [h,Nat.beq_refl] at hne;cases hne
  have hty:Ty1 P T z:=by have:=Y.ok T;rw [hT] at this;exact this
  Run.pureR [(x,SV.p k off)] (SV.p a 0) [(k,blk k cs Tb),(kp,eqP a kk)] rfl hg (fun p hp=>by simp at hp;subst hp;exact hx) (fun p hp=>by simp at hp;rcases hp with rfl | rfl <;> assumption) (by simpa using hne') hn (fun β ρ w F hs hρ=>by
    have h1:ρ x=.pointer (some ⟨(β k).b,off,none⟩):=hρ (x,SV.p k off) (by simp)
    obtain ⟨F1,F2,e,d',hb,hq⟩:=hs
    have hq:=(Star_one.1 hq).2
    have h3:=run_load1 hty hb.2 (off:=off) (v:=(Cl.nv kk).den β) (by simp [hv])
    simp only [execOp,h1]
    rw [run_bind_ok h3]
    have e2:(Cl.nv kk).den β=ptr (β a).b 0:=hq
    rw [e2];rfl) h
theorem K.load1P (Y : Tys P) (kp : Nat) {d : Nat} {T : TypeId} {x : Operand} {ty : TypeId} {pos : String} {after : Array Edge} {g : Option (Nat × Bool)} {gr : FL} {k off a kk : Nat} {z : Value} {cs : List Cl} {Tb : TypeId} (hg : Gd ops ⟨some d, .load T x, ty, pos, after, g⟩ fs gr)
    (hx:ev fs x=some (SV.p k off)) (hl:lkT L k=some (blk k cs Tb)) (hk:lkT L kp=some (eqP a kk)) (hne:Nat.beq k kp=false) (hT:Y.f T=.one z) (hv:cs[off]? = some (.nv kk)) (hn:Nat.blt d n=true)
    (h:RunK P n ops rest ((d,SV.p a 0)::fs) L (fun ss fs' L'=>K (⟨gr++opds [(x,SV.p k off)],some d,SV.p a 0,[(k,blk k cs Tb),(kp,eqP a kk)],[],[],[]⟩::ss) fs' L')):RunK P n ops (⟨some d,.load T x,ty,pos,after,g⟩::rest) fs L K :=
  RunK.of (fun _ _ _ h=>Run.load1P Y kp hg hx hl hk hne hT hv hn h) h
theorem G.toP {C:Ctx} {P:Program} {fs:FL} {L:TL} {c:Code} {Q:Exit→Act→World→Prop} {t a k:Nat} (kp:Nat) (hl:lk fs t=some (.a (.c (.nv k)))) (hk:lkT L kp=some (eqP a k)) (h:G C P ((t,SV.p a 0)::fs) L c Q):G C P fs L c Q :=
  At.toP (R:=fun a w=>c.wp P Q a w) kp hl hk h
theorem G.toN {C:Ctx} {P:Program} {fs:FL} {L:TL} {c:Code} {Q:Exit→Act→World→Prop} {t a k:Nat} (kp:Nat) (hl:lk fs t=some (SV.p a 0)) (hk:lkT L kp=some (eqP a k)) (h:G C P ((t,.a (.c (.nv k)))::fs) L c Q):G C P fs L c Q :=
  At.toN (R:=fun a w=>c.wp P Q a w) kp hl hk h
theorem isn_f {b:Bool} (h:(!b)=true):b=false:=by cases b <;> simp_all
end
end Go.Proofs.YtgjbibabegabnaaGreat.Sx
namespace Go.Proofs.YtgjbibabegabnaaGreat.Sx
open Go
structure PF (ω α:Type) where
  op:ω
  gone:Bool
  n:Int
  q:α
  left:Bool
  sib:PT ω α
section
variable {ω α:Type}
def PF.fill (f:PF ω α) (t:PT ω α):PT ω α:=bif f.left then .node f.op f.gone t f.sib f.n f.q else .node f.op f.gone f.sib t f.n f.q
def plug:List (PF ω α)→PT ω α→PT ω α
  | [], t => t
  | f :: p, t => plug p (f.fill t)
def holeRes (enc:ω→List Value) (pay:α→Value→Res) (T:TypeId):List (PF ω α)→Value→Value→Res
  | [], v, u => pureRes (v = u)
  | f :: p, v, u => exR fun z : Nat × Value × Value => starRes [blkRes z.1 (enc f.op ++ [.bool f.gone, (bif f.left then u else one1 z.2.1), (bif f.left then one1 z.2.1 else u), .int .i64 f.n, z.2.2]) T, ptRes enc pay T f.sib (one1 z.2.1), pay f.q z.2.2, holeRes enc pay T p v (ptr z.1 0)]
def holeT (enc:ω→List Value) (pay:α→Value→Res) (T:TypeId) (kr kf:Nat) (p:List (PF ω α)):Tok where
  ks:=[kr,kf]
  r β:=holeRes enc pay T p (one1 (β kr).v) (one1 (β kf).v)
  sup h:=by rw [h kr (by simp),h kf (by simp)]
variable {enc:ω→List Value} {pay:α→Value→Res} {T:TypeId}
theorem hole0 (kh k:Nat):Ent [] [(kh,holeT enc pay T k k ([]:List (PF ω α)))] []:=by
  intro β w F hs
  exact ⟨β,fun _ _=>rfl,F,fun _ h=>h,Star_one.2 ⟨hs,rfl⟩⟩
theorem Star_swap {a b:Res} {L:List Res} {w:World} {F:Foot} (h:Star (a::b::L) w F):Star (b::a::L) w F:=Star_perm (List.Perm.swap b a L) h
theorem holeL {op : ω} {g : Bool} {n : Int} {q : α} {r : PT ω α} {p : List (PF ω α)} {pt : List (Nat × Tok)} {pc : Cl} (kh kt kf ka kl kr kp : Nat) (hp : PayC pay q pt pc) :
    Ent ((kh,holeT enc pay T kt kf p)::(ka,blk ka (ndC enc op g kl kr n pc) T)::(kr,ptT enc pay T kr r)::(kp,eqP ka kf)::pt) [(kh,holeT enc pay T kt kl (⟨op,g,n,q,true,r⟩::p))] []:=by
  rintro β w F ⟨F0,F9,e0,d0,hh,F1,F2,e1,d1,hb,F5,F6,e3,d3,hr,hq⟩
  obtain ⟨hv,hst⟩:=Star_pure.1 hq
  have hb':(blkRes (β ka).b ((ndC enc op g kl kr n pc).map (Cl.den β)) T).holds w F1:=hb
  rw [ndC_den] at hb'
  have hh':(holeRes enc pay T p (one1 (β kt).v) (one1 (β kf).v)).holds w F0:=hh
  rw [hv] at hh'
  refine ⟨β,fun _ _=>rfl,F,fun _ h=>h,Star_one.2 ⟨((β ka).b,(β kr).v,pc.den β),?_⟩⟩
  have h1:Star [holeRes enc pay T p (one1 (β kt).v) (ptr (β ka).b 0),blkRes (β ka).b (enc op++[.bool g,one1 (β kl).v,one1 (β kr).v,.int .i64 n,pc.den β]) T,ptRes enc pay T r (one1 (β kr).v),pay q (pc.den β)] w F :=
    ⟨F0,F9,e0,d0,hh',F1,F2,e1,d1,hb',F5,F6,e3,d3,hr,Star_one.2 (hp.cl β w F6 hst)⟩
  exact Star_perm (List.perm_append_comm (l₁:=[_]) (l₂:=[_,_,_])) h1
theorem holeR {op : ω} {g : Bool} {n : Int} {q : α} {l : PT ω α} {p : List (PF ω α)} {pt : List (Nat × Tok)} {pc : Cl} (kh kt kf ka kl kr kp : Nat) (hp : PayC pay q pt pc) :
    Ent ((kh,holeT enc pay T kt kf p)::(ka,blk ka (ndC enc op g kl kr n pc) T)::(kl,ptT enc pay T kl l)::(kp,eqP ka kf)::pt) [(kh,holeT enc pay T kt kr (⟨op,g,n,q,false,l⟩::p))] []:=by
  rintro β w F ⟨F0,F9,e0,d0,hh,F1,F2,e1,d1,hb,F5,F6,e3,d3,hr,hq⟩
  obtain ⟨hv,hst⟩:=Star_pure.1 hq
  have hb':(blkRes (β ka).b ((ndC enc op g kl kr n pc).map (Cl.den β)) T).holds w F1:=hb
  rw [ndC_den] at hb'
  have hh':(holeRes enc pay T p (one1 (β kt).v) (one1 (β kf).v)).holds w F0:=hh
  rw [hv] at hh'
  refine ⟨β,fun _ _=>rfl,F,fun _ h=>h,Star_one.2 ⟨((β ka).b,(β kl).v,pc.den β),?_⟩⟩
  have h1:Star [holeRes enc pay T p (one1 (β kt).v) (ptr (β ka).b 0),blkRes (β ka).b (enc op++[.bool g,one1 (β kl).v,one1 (β kr).v,.int .i64 n,pc.den β]) T,ptRes enc pay T l (one1 (β kl).v),pay q (pc.den β)] w F :=
    ⟨F0,F9,e0,d0,hh',F1,F2,e1,d1,hb',F5,F6,e3,d3,hr,Star_one.2 (hp.cl β w F6 hst)⟩
  exact Star_perm (List.perm_append_comm (l₁:=[_]) (l₂:=[_,_,_])) h1
theorem plug_res : ∀ (p:List (PF ω α)) {t:PT ω α} {v u:Value} {w:World} {F:Foot},Star [holeRes enc pay T p v u,ptRes enc pay T t u] w F→one1 u=u→(ptRes enc pay T (plug p t) v).holds w F
  | [], t, v, u, w, F, h, _ => by
    obtain ⟨e,h2⟩:=Star_pure.1 h
    subst e
    exact Star_one.1 h2
  | f :: p, t, v, u, w, F, h, hu => by
    obtain ⟨F1,F2,e,d,⟨z,hz⟩,h2⟩:=h
    have h3:Star [blkRes z.1 (enc f.op++[.bool f.gone,(bif f.left then u else one1 z.2.1),(bif f.left then one1 z.2.1 else u),.int .i64 f.n,z.2.2]) T,ptRes enc pay T f.sib (one1 z.2.1),pay f.q z.2.2,holeRes enc pay T p v (ptr z.1 0),ptRes enc pay T t u] w F:=Star_append.2 ⟨F1,F2,e,d,hz,h2⟩
    obtain ⟨G1,G2,e',d',hb,h4⟩:=h3
    obtain ⟨G3,G4,e2,d2,hs,h5⟩:=h4
    obtain ⟨G5,G6,e3,d3,hq,h6⟩:=h5
    obtain ⟨G7,G8,e4,d4,hh,h7⟩:=h6
    have ht:=Star_one.1 h7
    refine plug_res p (t:=f.fill t) (u:=ptr z.1 0) ?_ rfl
    have main:Star [holeRes enc pay T p v (ptr z.1 0),blkRes z.1 (enc f.op++[.bool f.gone,(bif f.left then u else one1 z.2.1),(bif f.left then one1 z.2.1 else u),.int .i64 f.n,z.2.2]) T,ptRes enc pay T f.sib (one1 z.2.1),ptRes enc pay T t u,pay f.q z.2.2] w F:=by
      have h8:Star ([blkRes z.1 (enc f.op++[.bool f.gone,(bif f.left then u else one1 z.2.1),(bif f.left then one1 z.2.1 else u),.int .i64 f.n,z.2.2]) T,ptRes enc pay T f.sib (one1 z.2.1),pay f.q z.2.2]++[holeRes enc pay T p v (ptr z.1 0),ptRes enc pay T t u]) w F:=⟨G1,G2,e',d',hb,G3,G4,e2,d2,hs,G5,G6,e3,d3,hq,G7,G8,e4,d4,hh,h7⟩
      refine Star_perm ?_ h8
      have p1 : ∀ (a b c d e:Res),([a,b,c]++[d,e]).Perm [d,a,b,e,c]:=fun a b c d e=>by
        have h1:([a,b,c]++[d,e]).Perm ([d,e]++[a,b,c]):=List.perm_append_comm
        refine h1.trans (List.Perm.cons d ?_)
        have h2:([e]++[a,b]).Perm ([a,b]++[e]):=List.perm_append_comm
        exact h2.append_right [c]
      exact p1 _ _ _ _ _
    obtain ⟨K1,K2,e5,d5,hh',K3,K4,e6,d6,hb',hrest⟩:=main
    have fin : ∀ (a b:PT ω α) (x y:Value),Star [ptRes enc pay T a (one1 x),ptRes enc pay T b (one1 y),pay f.q z.2.2] w K4→(blkRes z.1 (enc f.op++[.bool f.gone,one1 x,one1 y,.int .i64 f.n,z.2.2]) T).holds w K3→(ptRes enc pay T (.node f.op f.gone a b f.n f.q) (ptr z.1 0)).holds w K2:=fun a b x y h1 h2 =>
      ⟨(z.1,x,y,z.2.2),Star_pure.2 ⟨rfl,K3,K4,e6,d6,h2,h1⟩⟩
    refine ⟨K1,K2,e5,d5,hh',Star_one.2 ?_⟩
    unfold PF.fill
    cases hl:f.left with
    | true =>
      rw [hl] at hb'
      refine fin t f.sib u z.2.1 ?_ ?_
      · rw [hu];exact Star_swap hrest
      · rw [hu];exact hb'
    | false =>
      rw [hl] at hb'
      refine fin f.sib t z.2.1 u ?_ ?_
      · rw [hu];exact hrest
      · rw [hu];exact hb'
theorem plugE {t:PT ω α} {p:List (PF ω α)} (kh kr kf:Nat):Ent [(kh,holeT enc pay T kr kf p),(kf,ptT enc pay T kf t)] [(kr,ptT enc pay T kr (plug p t))] []:=by
  intro β w F h
  refine ⟨β,fun _ _=>rfl,F,fun _ h=>h,Star_one.2 (plug_res p h ?_)⟩
  generalize (β kf).v=v
  cases h:v.oneCell' with
  | true => have e : one1 v = v := by simp only [one1, h]
            rw [e,e]
  | false => have e : one1 v = .bool false := by simp only [one1, h]
             rw [e];rfl
def holeX (enc:ω→List Value) (pay:α→Value→Res) (T:TypeId) (kr kf:Nat) (e t:PT ω α):Tok where
  ks:=[kr,kf]
  r β:=exR fun p:List (PF ω α)=>starRes [pureRes (plug p t=e),holeRes enc pay T p (one1 (β kr).v) (one1 (β kf).v)]
  sup h:=by rw [h kr (by simp),h kf (by simp)]
theorem holeX_ren {f:Nat→Nat} {a k a' k':Nat} {e t:PT ω α} (h1:f a'=a) (h2:f k'=k):RenT f (holeX enc pay T a' k' e t) (holeX enc pay T a k e t):=by
  subst h1;subst h2;intro β;rfl
theorem holeX0 (kh k:Nat) (t:PT ω α):Ent [] [(kh,holeX enc pay T k k t t)] []:=by
  intro β w F hs
  exact ⟨β,fun _ _=>rfl,F,fun _ h=>h,Star_one.2 ⟨[],Star_pure.2 ⟨rfl,Star_one.2 ⟨hs,rfl⟩⟩⟩⟩
theorem holeXL [Inhabited ω] [Inhabited α] {e t : PT ω α} (ht : t.isNil = false) {pt : List (Nat × Tok)} {pc : Cl} (kh kt kf ka kl kr kp : Nat) (hp : PayC pay t.q pt pc) :
    Ent ((kh,holeX enc pay T kt kf e t)::(ka,blk ka (ndC enc t.op t.gone kl kr t.n pc) T)::(kr,ptT enc pay T kr t.rt)::(kp,eqP ka kf)::pt) [(kh,holeX enc pay T kt kl e t.lf)] []:=by
  rintro β w F ⟨F0,F9,e0,d0,⟨p,hh⟩,hrest⟩
  obtain ⟨hpl,hh⟩:=Star_pure.1 hh
  obtain ⟨β',hb,F',hs,h⟩:=holeL (enc:=enc) (T:=T) (p:=p) (op:=t.op) (g:=t.gone) (n:=t.n) (r:=t.rt) kh kt kf ka kl kr kp hp β w F ⟨F0,F9,e0,d0,Star_one.1 hh,hrest⟩
  refine ⟨β',hb,F',hs,Star_one.2 ⟨_,Star_pure.2 ⟨?_,h⟩⟩⟩
  rw [← hpl]
  show plug p (PT.node t.op t.gone t.lf t.rt t.n t.q)=plug p t
  rw [← PT.eta ht]
theorem holeXR [Inhabited ω] [Inhabited α] {e t : PT ω α} (ht : t.isNil = false) {pt : List (Nat × Tok)} {pc : Cl} (kh kt kf ka kl kr kp : Nat) (hp : PayC pay t.q pt pc) :
    Ent ((kh,holeX enc pay T kt kf e t)::(ka,blk ka (ndC enc t.op t.gone kl kr t.n pc) T)::(kl,ptT enc pay T kl t.lf)::(kp,eqP ka kf)::pt) [(kh,holeX enc pay T kt kr e t.rt)] []:=by
  rintro β w F ⟨F0,F9,e0,d0,⟨p,hh⟩,hrest⟩
  obtain ⟨hpl,hh⟩:=Star_pure.1 hh
  obtain ⟨β',hb,F',hs,h⟩:=holeR (enc:=enc) (T:=T) (p:=p) (op:=t.op) (g:=t.gone) (n:=t.n) (l:=t.lf) kh kt kf ka kl kr kp hp β w F ⟨F0,F9,e0,d0,Star_one.1 hh,hrest⟩
  refine ⟨β',hb,F',hs,Star_one.2 ⟨_,Star_pure.2 ⟨?_,h⟩⟩⟩
  rw [← hpl]
  show plug p (PT.node t.op t.gone t.lf t.rt t.n t.q)=plug p t
  rw [← PT.eta ht]
theorem plugX {e t:PT ω α} (kh kr kf:Nat):Ent [(kh,holeX enc pay T kr kf e t),(kf,ptT enc pay T kf t)] [(kr,ptT enc pay T kr e)] []:=by
  rintro β w F ⟨F0,F9,e0,d0,⟨p,hh⟩,hrest⟩
  obtain ⟨hpl,hh⟩:=Star_pure.1 hh
  obtain ⟨β',hb,F',hs,h⟩:=plugE (enc:=enc) (pay:=pay) (T:=T) (p:=p) (t:=t) kh kr kf β w F ⟨F0,F9,e0,d0,Star_one.1 hh,hrest⟩
  rw [hpl] at h
  exact ⟨β',hb,F',hs,h⟩
end
section
variable {P:Program} {n:Nat} {ops:Array Oper} {rest:List Oper} {fs fs':FL} {L L':TL} {ss:List Step} {K:List Step→FL→TL→Prop}
end
end Go.Proofs.YtgjbibabegabnaaGreat.Sx
namespace Go.Proofs.YtgjbibabegabnaaGreat.Sx
open Go
def frc {α β:Type}:List α→(List α→β)→β
  | [], k => k []
  | a :: l, k => frc l (fun l' => k (a :: l'))
theorem frc_eq {α β:Type} : ∀ (l:List α) (k:List α→β),frc l k=k l
  | [], _ => rfl
  | a :: l, k => frc_eq l _
def asP:Option SV→Option (Nat×Nat)
  | some (.a (.c (.p k off))) => some (k, off)
  | _ => none
theorem asP_spec {o:Option SV} {k off:Nat} (h:asP o=some (k,off)):o=some (SV.p k off):=by
  unfold asP at h;split at h <;> cases h;rfl
def asV:Option SV→Option Value
  | some (.a (.c (.v X))) => some X
  | _ => none
theorem asV_spec {o:Option SV} {X:Value} (h:asV o=some X):o=some (SV.raw X):=by
  unfold asV at h;split at h <;> cases h;rfl
def asA:Option SV→Option Av
  | some (.a y) => some y
  | _ => none
theorem asA_spec {o:Option SV} {y:Av} (h:asA o=some y):o=some (.a y):=by
  unfold asA at h;split at h <;> cases h;rfl
def asG:Option SV→Option (List Cl)
  | some (.a (.agg l)) => some l
  | _ => none
theorem asG_spec {o:Option SV} {y:List Cl} (h:asG o=some y):o=some (.a (.agg y)):=by
  unfold asG at h;split at h <;> cases h;rfl
def asT:Option SV→Option (List Av)
  | some (.tup l) => some l
  | _ => none
theorem asT_spec {o:Option SV} {y:List Av} (h:asT o=some y):o=some (.tup y):=by
  unfold asT at h;split at h <;> cases h;rfl
def tkB (L:TL) (k:Nat):Option (Tok×List Cl×TypeId):=match lkT L k with
  | some t => match t.sh with
    | some (cs, T) => some (t, cs, T)
    | none => none
  | none => none
theorem tkB_spec {L:TL} {k:Nat} {t:Tok} {cs:List Cl} {T:TypeId} (h:tkB L k=some (t,cs,T)):lkT L k=some t:=by
  unfold tkB at h;split at h
  · rename_i t' h';split at h <;> cases h;exact h'
  · cases h
def binI:BinOp→Int→Int→Option Value
  | .add, a, b => some (.int .i64 (w64 (a + b)))
  | .sub, a, b => some (.int .i64 (w64 (a - b)))
  | .mul, a, b => some (.int .i64 (w64 (a * b)))
  | .eql, a, b => some (.bool (a == b))
  | .neq, a, b => some (.bool (a != b))
  | .lss, a, b => some (.bool (decide (a < b)))
  | .leq, a, b => some (.bool (decide (a ≤ b)))
  | .gtr, a, b => some (.bool (decide (a > b)))
  | .geq, a, b => some (.bool (decide (a ≥ b)))
  | _, _, _ => none
def binV (op:BinOp):Value→Value→Option Value
  | .int .i64 a, .int .i64 b => binI op a b
  | _, _ => none
theorem binV_ok {P:Program} {op:BinOp} {t:TypeId} {x z:Operand} {X Z V:Value} (h:binV op X Z=some V) (w:World):(do eqGuard op t x z X Z;binOp op t X Z:Sem Value).run P w=.ok V w:=by
  unfold binV at h
  split at h
  · cases op <;> simp only [binI,Option.some.injEq] at h <;> first | (subst h;rfl) | cases h
  · cases h
def evs (fs:FL):List (Nat×Operand)→Option (List (Nat×Av))
  | [] => some []
  | (i, x) :: l => match asA (ev fs x), evs fs l with
    | some y, some r => some ((i, y) :: r)
    | _, _ => none
theorem evs_spec {fs:FL} : ∀ {l:List (Nat×Operand)} {ys:List (Nat×Av)},evs fs l=some ys→∃ q:List (Operand×SV),(∀ p∈q,ev fs p.1=some p.2)∧l=((List.zip ys q).map fun q=>(q.1.1,q.2.1))∧(q.map (·.2)=ys.map fun q=>.a q.2)∧q=(List.zip l ys).map fun p=>(p.1.2,.a p.2.2)
  | [], ys, h => by cases h; exact ⟨[], by simp, rfl, rfl, rfl⟩
  | (i, x) :: l, ys, h => by
    unfold evs at h
    split at h
    · rename_i y r h1 h2
      cases h
      obtain ⟨q,a,b,c,d⟩:=evs_spec h2
      refine ⟨(x,.a y)::q,?_,?_,?_,?_⟩
      · intro p hp
        rcases List.mem_cons.1 hp with rfl | hp
        · exact asA_spec h1
        · exact a p hp
      · rw [List.zip_cons_cons,List.map_cons,← b]
      · rw [List.map_cons,List.map_cons,c]
      · rw [List.zip_cons_cons,List.map_cons,← d]
    · cases h
abbrev Ex:=Option (Step×List Nat×FL×TL×Option (Tok×Tok))
def pu (n:Nat) (dst:Option Nat) (ns:List Nat) (fs:FL) (L:TL) (l:List (Operand×SV)) (x:SV):Ex:=match dst with
  | some d => match Nat.blt d n with
    | true => some (⟨opds l, some d, x, [], [], [], []⟩, ns, (d, x) :: fs, L, none)
    | false => none
  | none => none
def ldS (n:Nat) (dst:Option Nat) (ns:List Nat) (fs:FL) (L:TL) (x:Operand) (k off:Nat) (t:Tok) (cs:List Cl) (Tb:TypeId) (y:Av):Ex:=match dst with
  | some d => match Nat.blt d n with
    | true => some (⟨opds [(x, SV.p k off)], some d, .a y, [(k, blk k cs Tb)], [], [], []⟩, ns, (d, .a y) :: fs, L, some (t, blk k cs Tb))
    | false => none
  | none => none
def fldS (Y:TypeId→TyI) (n:Nat) (dst:Option Nat) (ns:List Nat) (fs:FL) (L:TL) (x:Operand) (cs:List Cl) (o ft:Nat):Ex:=match Y ft with
  | .one _ => match cs[o]? with
    | some y => pu n dst ns fs L [(x, .a (.agg cs))] (.a (.c y))
    | none => none
  | .st M _ _ => frc ((cs.drop o).take M) fun ys => pu n dst ns fs L [(x, .a (.agg cs))] (.a (.agg ys))
  | .none => none
def ldX (Y:TypeId→TyI) (n:Nat) (dst:Option Nat) (ns:List Nat) (fs:FL) (L:TL) (T:TypeId) (x:Operand) (k off:Nat) (t:Tok) (cs:List Cl) (Tb:TypeId):Ex:=match Y T with
  | .one _ => match cs[off]? with
    | some y => ldS n dst ns fs L x k off t cs Tb (.c y)
    | none => none
  | .st N _ _ => match Nat.ble (off + N) cs.length with
    | true => frc ((cs.drop off).take N) fun ys => ldS n dst ns fs L x k off t cs Tb (.agg ys)
    | false => none
  | .none => none
def stX (Y:TypeId→TyI) (dst:Option Nat) (ns:List Nat) (fs:FL) (L:TL) (T:TypeId) (x v:Operand) (k off:Nat) (y:Av) (t:Tok) (cs:List Cl) (Tb:TypeId):Ex:=match dst with
  | none => match Nat.beq y.cl.length (tsize (Y T)) && (Nat.blt 0 (tsize (Y T)) && (y.cl.all Cl.ok1 && Nat.ble (off + y.cl.length) cs.length)) with
    | true => frc (setAt cs off y.cl) fun cs' => some (⟨opds [(x, SV.p k off), (v, .a y)], none, SV.raw undef, [], [(k, blk k cs Tb)], [(k, blk k cs' Tb)], []⟩, ns, fs, (k, some (blk k cs' Tb)) :: L, some (t, blk k cs Tb))
    | false => none
  | some _ => none
def nwX (n:Nat) (dst:Option Nat) (ns:List Nat) (fs:FL) (L:TL) (q:List (Operand×SV)) (T:TypeId) (b:Bool) (cs0:List Cl):Ex:=match dst,ns with
  | some d, k :: ns' => match b && (cs0.all Cl.ok1 && ((lkT L k).isNone && (frB [k] fs L && Nat.blt d n))) with
    | true => frc cs0 fun cs => some (⟨opds q, some d, SV.p k 0, [], [], [(k, blk k cs T)], [k]⟩, ns', (d, SV.p k 0) :: fs, (k, some (blk k cs T)) :: L, none)
    | false => none
  | _, _ => none
def ex1 (Y:TypeId→TyI) (n:Nat) (o:Oper) (ns:List Nat) (fs:FL) (L:TL):Ex:=match o.guard with
  | some _ => none
  | none => match o.op with
    | .move x => match ev fs x with
      | some y => pu n o.dst ns fs L [(x, y)] y
      | none => none
    | .assign x => match ev fs x with
      | some y => pu n o.dst ns fs L [(x, y)] y
      | none => none
    | .nilCheck x => match asP (ev fs x) with
      | some (k, off) => pu n o.dst ns fs L [(x, SV.p k off)] (SV.p k off)
      | none => none
    | .fieldAddr s x f => match asP (ev fs x) with
      | some (k, off) => match Y s with
        | .st _ fl _ => match fl[f]? with
          | some (fo, _, _) => pu n o.dst ns fs L [(x, SV.p k off)] (SV.p k (off + fo))
          | none => none
        | _ => none
      | none => none
    | .load T x => match asP (ev fs x) with
      | some (k, off) => match tkB L k with
        | some (t, cs, Tb) => ldX Y n o.dst ns fs L T x k off t cs Tb
        | none => none
      | none => none
    | .store T x v => match asP (ev fs x) with
      | some (k, off) => match asA (ev fs v) with
        | some y => match tkB L k with
          | some (t, cs, Tb) => stX Y o.dst ns fs L T x v k off y t cs Tb
          | none => none
        | none => none
      | none => none
    | .alloc T => nwX n o.dst ns fs L [] T (Nat.blt 0 (tsize (Y T))) (zcl (Y T))
    | .box T x => match asA (ev fs x) with
      | some y => nwX n o.dst ns fs L [(x, .a y)] T true y.cl
      | none => none
    | .extract x i => match asT (ev fs x) with
      | some l => match l[i]? with
        | some y => pu n o.dst ns fs L [(x, .tup l)] (.a y)
        | none => none
      | none => none
    | .build T ps => match evs fs ps.toList with
      | some ys => match Y T with
        | .st _ fl zs => match fillC fl (zs.map .v) ys with
          | some cs0 => frc cs0 fun cs => pu n o.dst ns fs L ((List.zip ps.toList ys).map fun p => (p.1.2, .a p.2.2)) (.a (.agg cs))
          | none => none
        | _ => none
      | none => none
    | .field T x i => match asG (ev fs x) with
      | some cs => match Y T with
        | .st _ fl _ => match fl[i]? with
          | some (of, _, ft) => fldS Y n o.dst ns fs L x cs of ft
          | none => none
        | _ => none
      | none => none
    | .binOp op t x z _ => match asV (ev fs x) with
      | some X => match asV (ev fs z) with
        | some Z => match binV op X Z with
          | some V => pu n o.dst ns fs L [(x, SV.raw X), (z, SV.raw Z)] (SV.raw V)
          | none => none
        | none => none
      | none => none
    | .unOp op _ x => match op with
      | .not => match asV (ev fs x) with
        | some X => match X with
          | .bool b => pu n o.dst ns fs L [(x, SV.b b)] (SV.b (!b))
          | _ => none
        | none => none
      | _ => none
    | _ => none
section
variable {P:Program} {n:Nat} {ops:Array Oper} {rest:List Oper} {fs fs1 fs':FL} {L L1 L':TL} {ss:List Step} {s:Step} {ns ns':List Nat} {c:Option (Tok×Tok)}
theorem pu_spec {dst:Option Nat} {l:List (Operand×SV)} {x:SV} (h:pu n dst ns fs L l x=some (s,ns',fs1,L1,c)) : ∃ d,dst=some d∧Nat.blt d n=true∧s=⟨opds l,some d,x,[],[],[],[]⟩∧fs1=(d,x)::fs∧L1=L:=by
  unfold pu at h;split at h
  · split at h
    · rename_i d hd;cases h;exact ⟨_,rfl,hd,rfl,rfl,rfl⟩
    · cases h
  · cases h
theorem ldS_spec {dst:Option Nat} {x:Operand} {k off:Nat} {t:Tok} {cs:List Cl} {Tb:TypeId} {y:Av} (h:ldS n dst ns fs L x k off t cs Tb y=some (s,ns',fs1,L1,c)) : ∃ d,dst=some d∧Nat.blt d n=true∧s=⟨opds [(x,SV.p k off)],some d,.a y,[(k,blk k cs Tb)],[],[],[]⟩∧fs1=(d,.a y)::fs∧L1=L∧c=some (t,blk k cs Tb):=by
  unfold ldS at h;split at h
  · split at h
    · rename_i d hd;cases h;exact ⟨_,rfl,hd,rfl,rfl,rfl,rfl⟩
    · cases h
  · cases h
theorem nwX_spec {dst:Option Nat} {q:List (Operand×SV)} {T:TypeId} {b:Bool} {cs:List Cl} (h:nwX n dst ns fs L q T b cs=some (s,ns',fs1,L1,c)) : ∃ d k,dst=some d∧b=true∧cs.all Cl.ok1=true∧lkT L k=none∧frB [k] fs L=true∧Nat.blt d n=true∧s=⟨opds q,some d,SV.p k 0,[],[],[(k,blk k cs T)],[k]⟩∧fs1=(d,SV.p k 0)::fs∧L1=(k,some (blk k cs T))::L:=by
  unfold nwX at h;split at h
  · split at h
    · rename_i hb
      simp only [Bool.and_eq_true,Option.isNone_iff_eq_none] at hb
      rw [frc_eq] at h;cases h
      exact ⟨_,_,rfl,hb.1,hb.2.1,hb.2.2.1,hb.2.2.2.1,hb.2.2.2.2,rfl,rfl,rfl⟩
    · cases h
  · cases h
theorem ex1_ok (Y:Tys P) {o:Oper} (h:ex1 Y.f n o ns fs L=some (s,ns',fs1,L1,c)) (hc : ∀ t u,c=some (t,u)→t=u) (hr:Run P n ops rest fs1 L1 ss fs' L'):Run P n ops (o::rest) fs L (s::ss) fs' L':=by
  obtain ⟨dst,op,T,pos,after,g⟩:=o
  unfold ex1 at h
  split at h
  · cases h
  rename_i hg;simp only at hg;subst hg
  simp only at h
  split at h
  · split at h
    · rename_i y hy;obtain ⟨d,rfl,hd,rfl,rfl,rfl⟩:=pu_spec h;exact Run.move (.inl rfl) (gd0 rfl) hy hd hr
    · cases h
  · split at h
    · rename_i y hy;obtain ⟨d,rfl,hd,rfl,rfl,rfl⟩:=pu_spec h;exact Run.move (.inr rfl) (gd0 rfl) hy hd hr
    · cases h
  · split at h
    · rename_i k off hp;obtain ⟨d,rfl,hd,rfl,rfl,rfl⟩:=pu_spec h;exact Run.nilCheck (gd0 rfl) (asP_spec hp) hd hr
    · cases h
  · split at h
    · rename_i k off hp
      split at h
      · rename_i hT
        split at h
        · rename_i hf;obtain ⟨d,rfl,hd,rfl,rfl,rfl⟩:=pu_spec h;exact Run.fieldAddr Y (gd0 rfl) (asP_spec hp) hT hf hd hr
        · cases h
      · cases h
    · cases h
  · split at h
    · rename_i k off hp
      split at h
      · rename_i t cs Tb ht
        have hl:=tkB_spec ht
        unfold ldX at h
        split at h
        · rename_i hT
          split at h
          · rename_i y hy;obtain ⟨d,rfl,hd,rfl,rfl,rfl,rfl⟩:=ldS_spec h
            rw [hc _ _ rfl] at hl;exact Run.load1 Y (gd0 rfl) (asP_spec hp) hl hT hy hd hr
          · cases h
        · rename_i hT
          split at h
          · rename_i hb;rw [frc_eq] at h;obtain ⟨d,rfl,hd,rfl,rfl,rfl,rfl⟩:=ldS_spec h
            rw [hc _ _ rfl] at hl;exact Run.loadS Y _ (gd0 rfl) (asP_spec hp) hl hT rfl hb hd hr
          · cases h
        · cases h
      · cases h
    · cases h
  · split at h
    · rename_i k off hp
      split at h
      · rename_i y hy
        split at h
        · rename_i t cs Tb ht
          have hl:=tkB_spec ht
          unfold stX at h
          split at h
          · split at h
            · rename_i hb
              simp only [Bool.and_eq_true] at hb
              rw [frc_eq] at h;cases h
              rw [hc _ _ rfl] at hl
              exact Run.store Y _ (gd0 rfl) (asP_spec hp) (asA_spec hy) hl rfl hb.1 hb.2.1 hb.2.2.1 rfl hb.2.2.2 hr
            · cases h
          · cases h
        · cases h
      · cases h
    · cases h
  · obtain ⟨d,k,rfl,hb,_,hl,hf,hd,rfl,rfl,rfl⟩:=nwX_spec h
    exact Run.alloc Y k _ (gd0 rfl) rfl rfl hb hl hf hd hr
  · split at h
    · rename_i y hy
      obtain ⟨d,k,rfl,hb,h1,hl,hf,hd,rfl,rfl,rfl⟩:=nwX_spec h
      exact Run.box Y k _ (gd0 rfl) (asA_spec hy) rfl h1 hl hf hd hr
    · cases h
  · split at h
    · rename_i l hy
      split at h
      · rename_i y hi;obtain ⟨d,rfl,hd,rfl,rfl,rfl⟩:=pu_spec h;exact Run.extract (gd0 rfl) (asT_spec hy) hi hd hr
      · cases h
    · cases h
  · split at h
    · rename_i ys he
      split at h
      · rename_i hT
        split at h
        · rename_i cs hf
          rw [frc_eq] at h
          obtain ⟨q,q1,q2,q3,q4⟩:=evs_spec he
          obtain ⟨d,rfl,hd,rfl,rfl,rfl⟩:=pu_spec h
          rw [← q4]
          exact Run.build Y ys cs q (gd0 rfl) q1 q2 q3 hT hf hd hr
        · cases h
      · cases h
    · cases h
  · split at h
    · rename_i cs hy
      split at h
      · rename_i hT
        split at h
        · rename_i of s' ft hf
          unfold fldS at h
          split at h
          · rename_i hft
            split at h
            · rename_i y hi;obtain ⟨d,rfl,hd,rfl,rfl,rfl⟩:=pu_spec h;exact Run.field1 Y (gd0 rfl) (asG_spec hy) hT hf hft hi hd hr
            · cases h
          · rename_i hft
            rw [frc_eq] at h;obtain ⟨d,rfl,hd,rfl,rfl,rfl⟩:=pu_spec h
            exact Run.fieldS Y _ (gd0 rfl) (asG_spec hy) hT hf hft rfl hd hr
          · cases h
        · cases h
      · cases h
    · cases h
  · split at h
    · rename_i X hX
      split at h
      · rename_i Z hZ
        split at h
        · rename_i V hV;obtain ⟨d,rfl,hd,rfl,rfl,rfl⟩:=pu_spec h;exact Run.bin (gd0 rfl) (asV_spec hX) (asV_spec hZ) (binV_ok hV) hd hr
        · cases h
      · cases h
    · cases h
  · split at h
    · split at h
      · rename_i X hX
        split at h
        · rename_i b;obtain ⟨d,rfl,hd,rfl,rfl,rfl⟩:=pu_spec h;exact Run.un (gd0 rfl) (asV_spec hX) (fun w=>rfl) hd hr
        · cases h
      · cases h
    · cases h
  · cases h
end
inductive Fr where
  | th (y : Code)
  | bl (id : Nat)
  | jn (N : Act → World → Prop)
inductive Hd where
  | co (c : Code)
  | op (ops : Array Oper) (rest : List Oper)
  | od (ops rest : List Oper) (pf : List Step → List Step) (fs0 : FL) (L0 : TL)
  | at (e : Exit)
def SQ (P:Program):List Fr→(Exit→Act→World→Prop)→Exit→Act→World→Prop
  | [], Q => Q
  | .th y :: s, Q => Exit.then (fun a w => y.wp P (SQ P s Q) a w) (SQ P s Q)
  | .bl id :: s, Q => Exit.inBlock id (SQ P s Q)
  | .jn N :: s, Q => Exit.then N (SQ P s Q)
def GH (C:Ctx) (P:Program):Hd→FL→TL→List Fr→(Exit→Act→World→Prop)→Prop
  | .co c, fs, L, stk, Q => G C P fs L c (SQ P stk Q)
  | .op ops rest, fs, L, stk, Q => RunK P C.n ops rest fs L (fun _ fs' L' => At C fs' L' (SQ P stk Q .normal))
  | .od ops rest pf fs0 L0, fs, L, stk, Q => RunK P C.n ops.toArray rest fs L (fun ss fs' L' => parB ops (pf ss) fs0 L0 = true ∧ At C fs' L' (SQ P stk Q .normal))
  | .at e, fs, L, stk, Q => At C fs L (SQ P stk Q e)
abbrev Mc:=Option (Hd×List Fr×List Nat×FL×TL×Option (Tok×Tok))
def st1 (Y:TypeId→TyI) (n:Nat) (hd:Hd) (stk:List Fr) (ns:List Nat) (fs:FL) (L:TL):Mc:=match hd with
  | .co c => match c with
    | .seq x y => some (.co x, .th y :: stk, ns, fs, L, none)
    | .block id x => some (.co x, .bl id :: stk, ns, fs, L, none)
    | .skip => some (.at .normal, stk, ns, fs, L, none)
    | .ret => some (.at .ret, stk, ns, fs, L, none)
    | .exit id => some (.at (.exit id), stk, ns, fs, L, none)
    | .region _ ops d => match d with
      | false => some (.op ops ops.toList, stk, ns, fs, L, none)
      | true => some (.od ops.toList ops.toList (fun ss => ss) fs L, stk, ns, fs, L, none)
    | _ => none
  | .op ops rest => match rest with
    | [] => some (.at .normal, stk, ns, fs, L, none)
    | o :: rest => match ex1 Y n o ns fs L with
      | some (s, ns, fs, L, c) => some (.op ops rest, stk, ns, fs, L, c)
      | none => none
  | .od ops rest pf fs0 L0 => match rest with
    | [] => none
    | o :: rest => match ex1 Y n o ns fs L with
      | some (s, ns, fs, L, c) => some (.od ops rest (fun ss => pf (s :: ss)) fs0 L0, stk, ns, fs, L, c)
      | none => none
  | .at e => match e with
    | .normal => match stk with
      | .th y :: s => some (.co y, s, ns, fs, L, none)
      | .bl _ :: s => some (.at .normal, s, ns, fs, L, none)
      | _ => none
    | .ret => match stk with
      | _ :: s => some (.at .ret, s, ns, fs, L, none)
      | [] => none
    | .exit id => match stk with
      | .bl id' :: s => match Nat.beq id id' with
        | true => some (.at .normal, s, ns, fs, L, none)
        | false => some (.at (.exit id), s, ns, fs, L, none)
      | _ :: s => some (.at (.exit id), s, ns, fs, L, none)
      | [] => none
    | _ => none
section
variable {C:Ctx} {P:Program} {fs fs':FL} {L L':TL} {Q:Exit→Act→World→Prop} {stk stk':List Fr} {ns ns':List Nat} {hd hd':Hd} {c:Option (Tok×Tok)}
theorem st1_ok (Y:Tys P) (hm:P.follows .mixedOrders=true) (h:st1 Y.f C.n hd stk ns fs L=some (hd',stk',ns',fs',L',c)) (hc : ∀ t u,c=some (t,u)→t=u) (hk:GH C P hd' fs' L' stk' Q):GH C P hd fs L stk Q:=by
  unfold st1 at h
  split at h
  · split at h
    · cases h;exact G.seq hk
    · cases h;exact G.block hk
    · cases h;exact G.skip hk
    · cases h;exact G.ret hk
    · cases h;exact G.exit hk
    · split at h
      · rename_i ops _
        obtain ⟨l⟩:=ops
        simp only [Option.some.injEq,Prod.mk.injEq] at h
        obtain ⟨rfl,rfl,rfl,rfl,rfl,rfl⟩:=h
        exact G.rg hk
      · rename_i ops _
        obtain ⟨l⟩:=ops
        simp only [Option.some.injEq,Prod.mk.injEq] at h
        obtain ⟨rfl,rfl,rfl,rfl,rfl,rfl⟩:=h
        exact G.rd hm hk
    · cases h
  · split at h
    · cases h;exact K.nil hk
    · split at h
      · rename_i s ns1 fs1 L1 c1 he
        cases h
        exact RunK.of (fun ss fs' L' hr=>ex1_ok Y he hc hr) hk
      · cases h
  · split at h
    · cases h
    · split at h
      · rename_i s ns1 fs1 L1 c1 he
        cases h
        exact RunK.of (fun ss fs' L' hr=>ex1_ok Y he hc hr) hk
      · cases h
  · split at h
    · split at h
      · cases h;exact At.next hk
      · cases h;exact At.block_normal hk
      · cases h
    · split at h
      · rename_i x s
        cases h
        cases x with
        | th y => exact At.over_ret hk
        | bl id => exact At.block_ret hk
        | jn N => exact At.over_ret hk
      · cases h
    · split at h
      · split at h
        · rename_i hb
          cases h
          have:=Nat.eq_of_beq_eq_true hb
          subst this
          exact At.block_hit hk
        · rename_i hb
          cases h;exact At.block_miss hb hk
      · cases h
        rename_i x hx
        cases x with
        | th y => exact At.over_exit hk
        | bl id => exact (hx _ rfl).elim
        | jn N => exact At.over_exit hk
      · cases h
    · cases h
def mN (Y:TypeId→TyI) (n:Nat):Nat→Hd→List Fr→List Nat→FL→TL→Option (Hd×List Fr×List Nat×FL×TL×List Tok×List Tok)
  | 0, hd, stk, ns, fs, L => some (hd, stk, ns, fs, L, [], [])
  | m + 1, hd, stk, ns, fs, L => match st1 Y n hd stk ns fs L with
    | some (hd, stk, ns, fs, L, c) => match mN Y n m hd stk ns fs L with
      | some (hd, stk, ns, fs, L, a, b) => match c with
        | some (t, u) => some (hd, stk, ns, fs, L, t :: a, u :: b)
        | none => some (hd, stk, ns, fs, L, a, b)
      | none => none
    | none => none
theorem mN_ok (Y:Tys P) (hm:P.follows .mixedOrders=true) : ∀ (m:Nat) {hd hd':Hd} {stk stk':List Fr} {ns ns':List Nat} {fs fs':FL} {L L':TL} {a:List Tok},mN Y.f C.n m hd stk ns fs L=some (hd',stk',ns',fs',L',a,a)→GH C P hd' fs' L' stk' Q→GH C P hd fs L stk Q
  | 0, _, _, _, _, _, _, _, _, _, _, _, h, hk => by cases h; exact hk
  | m + 1, hd, hd', stk, stk', ns, ns', fs, fs', L, L', a, h, hk => by
    unfold mN at h
    split at h
    · rename_i h1
      split at h
      · rename_i h2
        split at h
        · simp only [Option.some.injEq,Prod.mk.injEq] at h
          obtain ⟨rfl,rfl,rfl,rfl,rfl,e1,e2⟩:=h
          rw [← e2] at e1
          injection e1 with e3 e4
          subst e3 e4
          exact st1_ok Y hm h1 (fun t u hh=>by cases hh;rfl) (mN_ok Y hm m h2 hk)
        · simp only [Option.some.injEq,Prod.mk.injEq] at h
          obtain ⟨rfl,rfl,rfl,rfl,rfl,e1,e2⟩:=h
          subst e1 e2
          exact st1_ok Y hm h1 (fun t u hh=>by cases hh) (mN_ok Y hm m h2 hk)
      · cases h
    · cases h
end
end Go.Proofs.YtgjbibabegabnaaGreat.Sx
namespace Go.Proofs.YtgjbibabegabnaaGreat.Sx
open Go
section
variable {C:Ctx} {P:Program} {fs fs':FL} {L L':TL} {Q:Exit→Act→World→Prop} {stk stk':List Fr} {hd:Hd} {tk:List Tok}
theorem M.g (Y:Tys P) (hm:P.follows .mixedOrders=true) (m:Nat) (ns:List Nat) {c:Code} (h:mN Y.f C.n m (.co c) stk ns fs L=some (hd,stk',[],fs',L',tk,tk)) (hk:GH C P hd fs' L' stk' Q):G C P fs L c (SQ P stk Q):=mN_ok (hd:=.co c) Y hm m h hk
theorem M.a (Y:Tys P) (hm:P.follows .mixedOrders=true) (m:Nat) (ns:List Nat) {e:Exit} (h:mN Y.f C.n m (.at e) stk ns fs L=some (hd,stk',[],fs',L',tk,tk)) (hk:GH C P hd fs' L' stk' Q):At C fs L (SQ P stk Q e):=mN_ok (hd:=.at e) Y hm m h hk
theorem M.k (Y:Tys P) (hm:P.follows .mixedOrders=true) (m:Nat) (ns:List Nat) {ops:Array Oper} {rest:List Oper} (h:mN Y.f C.n m (.op ops rest) stk ns fs L=some (hd,stk',[],fs',L',tk,tk)) (hk:GH C P hd fs' L' stk' Q):RunK P C.n ops rest fs L (fun _ fs' L'=>At C fs' L' (SQ P stk Q .normal)):=mN_ok (hd:=.op ops rest) Y hm m h hk
theorem M.d (Y:Tys P) (hm:P.follows .mixedOrders=true) (m:Nat) (ns:List Nat) {ops rest:List Oper} {pf:List Step→List Step} {fs0:FL} {L0:TL} (h:mN Y.f C.n m (.od ops rest pf fs0 L0) stk ns fs L=some (hd,stk',[],fs',L',tk,tk)) (hk:GH C P hd fs' L' stk' Q):RunK P C.n ops.toArray rest fs L (fun ss fs' L'=>parB ops (pf ss) fs0 L0=true∧At C fs' L' (SQ P stk Q .normal)):=mN_ok (hd:=.od ops rest pf fs0 L0) Y hm m h hk
theorem M.n {n:Nat} {ops:List Oper} {oa:Array Oper} {pf:List Step→List Step} {fs0:FL} {L0:TL} (hk:At C fs L (SQ P stk Q .normal)) (hp:parB ops (pf []) fs0 L0=true:=by kernel_rfl):RunK P n oa [] fs L (fun ss fs' L'=>parB ops (pf ss) fs0 L0=true∧At C fs' L' (SQ P stk Q .normal)):=K.nil ⟨hp,hk⟩
end
def zipL:List Nat→List SV→Option FL
  | _, [] => some []
  | i :: is, a :: l => match zipL is l with
    | some r => some ((i, a) :: r)
    | none => none
  | [], _ :: _ => none
def tmL:List (Nat×Tok)→TL
  | [] => []
  | (k, t) :: l => (k, some t) :: tmL l
theorem tmL_eq : ∀ l:List (Nat×Tok),tmL l=l.map fun p=>(p.1,some p.2)
  | [] => rfl
  | (k, t) :: l => by rw [tmL, tmL_eq l]; rfl
theorem zipL_eq : ∀ (m a:Nat) (l:List SV) {fs:FL},zipL (List.range' a m) l=some fs→fs=(List.range' a l.length).zip l
  | m, a, [], fs, h => by cases m <;> (simp only [List.range', zipL, Option.some.injEq] at h; subst h; rfl)
  | 0, a, _ :: _, fs, h => by simp only [List.range', zipL] at h; cases h
  | m + 1, a, x :: l, fs, h => by
    simp only [List.range',zipL] at h
    split at h
    · rename_i r hr
      cases h
      rw [zipL_eq m _ l hr];rfl
    · cases h
def idx20:List Nat:=[0,1,2,3,4,5,6,7,8,9,10,11,12,13,14,15,16,17,18,19]
def frcT {β:Type}:TL→(TL→β)→β
  | [], k => k []
  | p :: l, k => frcT l (fun l' => k (p :: l'))
theorem frcT_eq {β:Type} : ∀ (l:TL) (k:TL→β),frcT l k=k l
  | [], _ => rfl
  | _ :: l, k => frcT_eq l _
theorem M.s {P : Program} {N : Nat} {f : FuncId} {fn : Func} {c : Code} {args : List SV} {ti to : List (Nat × Tok)} {ret : SV} {fr : List Nat} {fs0 : FL} {L0 : TL} (hf : P.funcs[f]? = some fn) (hN : fn.ntmps = N)
    (h0:frcT (tmL ti) (fun L=>(fn.body,zipL idx20 args,some L,Nat.ble args.length N&&ndB (ti.map (·.1))))=(some c,some fs0,some L0,true))
    (h : ∀ (β:Env) (W:World) (F:Foot),G ⟨W,F,β,N,[]⟩ P fs0 L0 c (SQ P [] (bodyPost P fn (Ret F W fr β ret to)))):SCon P f args ti ret to fr:=by
  rw [frcT_eq] at h0
  simp only [Prod.mk.injEq,Option.some.injEq,Bool.and_eq_true] at h0
  obtain ⟨h1,h2,h3,h4,h5⟩:=h0
  refine spec_of fs0 L0 N hf h1 hN ?_ ?_ h4 h5 h
  · rw [zipL_eq 20 0 args h2,List.range_eq_range']
  · rw [← h3,tmL_eq]
def getR (L:TL) (ρ:List (Nat×Nat)):List (Nat×Tok)→Option (List Tok)
  | [] => some []
  | (k, _) :: l => match lkT L (rn ρ k), getR L ρ l with
    | some t, some ts => some (t :: ts)
    | _, _ => none
theorem getR_ren {L:TL} {ρ:List (Nat×Nat)} : ∀ {tl:List (Nat×Tok)} {ts:List Tok},getR L ρ tl=some ts→(∀ β:Env,(tl.map fun p=>p.2.r fun k=>β (rn ρ k))=ts.map fun t=>t.r β)→RenL (rn ρ) L tl ts
  | [], ts, h, _ => by cases h; trivial
  | (k, t') :: tl, ts, h, h2 => by
    unfold getR at h
    split at h
    · rename_i t ts' h3 h4
      cases h
      have h5:=fun β=>List.cons.inj (show _::(tl.map fun p=>p.2.r fun k=>β (rn ρ k))=t.r β::ts'.map fun t=>t.r β from h2 β)
      exact ⟨h3,fun β=>(h5 β).1,getR_ren h4 fun β=>(h5 β).2⟩
    · cases h
theorem renF_of {fs:FL} {f:Nat→Nat} : ∀ {l:FL},(l.map fun p=>lk fs p.1)=(l.map fun p=>some (p.2.ren f))→RenF f fs l
  | [], _ => trivial
  | p :: l, h => ⟨(List.cons.inj h).1, renF_of (List.cons.inj h).2⟩
def RenB (fs:FL) (L:TL) (ρ:List (Nat×Nat)) (fs':FL) (tl:List (Nat×Tok)) (ts:List Tok):Prop :=
  ∀ β:Env,(getR L ρ tl,(ρ.all (fun p=>Nat.ble 20 p.1)&&ndB ((tl.map (·.1)).map (rn ρ))),(fs'.map fun p=>lk fs p.1),tl.map fun p=>p.2.r fun k=>β (rn ρ k))=(some ts,true,(fs'.map fun p=>some (p.2.ren (rn ρ))),ts.map fun t=>t.r β)
theorem RenB.holds {C:Ctx} {fs fs':FL} {L:TL} {ρ:List (Nat×Nat)} {tl:List (Nat×Tok)} {ts:List Tok} (h:RenB fs L ρ fs' tl ts) {a:Act} {w:World} (hh:Holds C (lk fs) (lkT L) a w):Holds C (lk fs') (lkT (tl.map fun p=>(p.1,some p.2))) a w:=by
  have h0:=h C.β0
  simp only [Prod.mk.injEq,Bool.and_eq_true] at h0
  exact hh.ren ρ h0.2.1.1 (renF_of h0.2.2.1) (getR_ren h0.1 fun β=>(Prod.mk.inj (Prod.mk.inj (Prod.mk.inj (h β)).2).2).2) h0.2.1.2
section
variable {C:Ctx} {P:Program} {fs:FL} {L:TL} {Q:Exit→Act→World→Prop} {stk:List Fr}
theorem M.j {σ:Type} (Fs:σ→FL) (Tl:σ→List (Nat×Tok)) {x y:Code} (h:G C P fs L x (SQ P (.jn (JP C Fs Tl)::stk) Q)) (hy : ∀ s:σ,G C P (Fs s) (tmL (Tl s)) y (SQ P stk Q)):G C P fs L (.seq x y) (SQ P stk Q):=G.sJ Fs Tl h (fun s=>by rw [← tmL_eq];exact hy s)
theorem M.jd {σ:Type} {Fs:σ→FL} {Tl:σ→List (Nat×Tok)} {ts:List Tok} (s':σ) (ρ:List (Nat×Nat)) (h:RenB fs L ρ (Fs s') (Tl s') ts:=by intro _;rfl):At C fs L (SQ P (.jn (JP C Fs Tl)::stk) Q .normal):=fun a w hh=>⟨s',h.holds hh⟩
def JX (C:Ctx) (fs1:FL) (tl1:List (Nat×Tok)):Act→World→Prop:=fun a w=>Holds C (lk fs1) (lkT (tl1.map fun p=>(p.1,some p.2))) a w
theorem M.x (fs1:FL) (tl1:List (Nat×Tok)) {x y:Code} (h:G C P fs L x (SQ P (.jn (JX C fs1 tl1)::stk) Q)) (hy:G C P fs1 (tmL tl1) y (SQ P stk Q)):G C P fs L (.seq x y) (SQ P stk Q):=by
  refine G.sJ (σ:=Unit) (fun _=>fs1) (fun _=>tl1) (G.mono h (fun e a w he=>?_)) (fun s=>by rw [← tmL_eq];exact hy)
  cases e with
  | normal => exact ⟨(), he⟩
  | _ => exact he
theorem M.xd {fs1:FL} {tl1:List (Nat×Tok)} {ts:List Tok} (ρ:List (Nat×Nat)) (h:RenB fs L ρ fs1 tl1 ts:=by intro _;rfl):At C fs L (SQ P (.jn (JX C fs1 tl1)::stk) Q .normal):=fun a w hh=>h.holds hh
def LM (C:Ctx) {σ ω:Type} (l:Nat→σ→Option ω) (x:ω) (n:Nat) (Fs:σ→FL) (Tl:σ→List (Nat×Tok)):Act→World→Prop:=fun a w=>∃ v,l n v=some x∧Holds C (lk (Fs v)) (lkT ((Tl v).map fun p=>(p.1,some p.2))) a w
theorem M.l {σ ω : Type} (l : Nat → σ → Option ω) {x : ω} {k : Nat} {v0 : σ} (H : l k v0 = some x) (Fs : σ → FL) (Tl : σ → List (Nat × Tok)) (ρ : List (Nat × Nat)) {ts : List Tok} {c : Code}
    (h : ∀ (n:Nat) (v:σ),l (n+1) v=some x→G C P (Fs v) (tmL (Tl v)) c (SQ P (.jn (LM C l x n Fs Tl)::stk) Q)) (hz : ∀ v,l 0 v=none:=by intro _;rfl) (hi:RenB fs L ρ (Fs v0) (Tl v0) ts:=by intro _;rfl):G C P fs L (.loop c) (SQ P stk Q):=by
  refine G.loop (σ:={ q:Nat×σ // l q.1 q.2=some x }) (fun q=>Fs q.1.2) (fun q=>Tl q.1.2) (fun q=>q.1.1) ⟨(k,v0),H⟩ (fun a w hh=>hi.holds hh) ?_
  rintro ⟨⟨n,v⟩,hv⟩
  cases n with
  | zero => rw [hz v] at hv; cases hv
  | succ n =>
    have:=h n v hv
    rw [tmL_eq] at this
    refine G.mono this (fun e a w he=>?_)
    cases e with
    | normal =>
      obtain ⟨v',h1,h2⟩:=he
      exact ⟨⟨(n,v'),h1⟩,Nat.lt_succ_self n,h2⟩
    | _ => exact he
theorem M.ag {σ ω:Type} {l:Nat→σ→Option ω} {x:ω} {n:Nat} {Fs:σ→FL} {Tl:σ→List (Nat×Tok)} {ts:List Tok} {v:σ} (H:l n v=some x) (ρ:List (Nat×Nat)) (h:RenB fs L ρ (Fs v) (Tl v) ts:=by intro _;rfl):At C fs L (SQ P (.jn (LM C l x n Fs Tl)::stk) Q .normal):=fun a w hh=>⟨v,H,h.holds hh⟩
theorem M.c {α:Type} {A B:Option α} {r:α} {c:Operand} {x y:Code} {t:Bool} {Q:Exit→Act→World→Prop} (hc:ev fs c=some (SV.b t)) (H:(bif t then A else B)=some r) (ht:t=true→A=some r→G C P fs L x Q) (hf:t=false→B=some r→G C P fs L y Q):G C P fs L (.cond c x y) Q :=
  G.cond hc (fun h=>ht h (by rw [h] at H;exact H)) (fun h=>hf h (by rw [h] at H;exact H))
theorem M.b {α β:Type} {e:Option α} {f:α→Option β} {r:β} {g:Prop} (H:e.bind f=some r) (h : ∀ x,e=some x→f x=some r→g):g:=by
  cases he:e with
  | none => rw [he] at H; cases H
  | some x => rw [he] at H; exact h x he H
theorem M.e {α:Type} {p:Prop} [Decidable p] {A:Option α} {r:α} {g:Prop} (H:(bif decide p then A else none)=some r) (h:p→A=some r→g):g:=h (grd H).1 (grd H).2
theorem M.i {t:Bool} {g:Prop} (h1:t=true→g) (h2:t=false→g):g:=by cases t with | true=>exact h1 rfl | false=>exact h2 rfl
end
def rvA (Y:TypeId→TyI) (fs:FL) (L:TL):ResultVar→Option (Av×Option (Tok×Tok))
  | .tmp t => match asA (lk fs t) with
    | some y => some (y, none)
    | none => none
  | .cell t T => match asP (lk fs t) with
    | some (k, off) => match tkB L k with
      | some (tk, cs, Tb) => match Y T with
        | .one _ => match cs[off]? with
          | some y => some (.c y, some (tk, blk k cs Tb))
          | none => none
        | .st N _ _ => match Nat.ble (off + N) cs.length with
          | true => frc ((cs.drop off).take N) fun ys => some (.agg ys, some (tk, blk k cs Tb))
          | false => none
        | .none => none
      | none => none
    | none => none
def rvL (Y:TypeId→TyI) (fs:FL) (L:TL):List ResultVar→Option (List Av×List Tok×List Tok)
  | [] => some ([], [], [])
  | v :: l => match rvA Y fs L v with
    | some (y, c) => match rvL Y fs L l with
      | some (ys, a, b) => match c with
        | some (t, u) => some (y :: ys, t :: a, u :: b)
        | none => some (y :: ys, a, b)
      | none => none
    | none => none
theorem rvA_spec {Y:TypeId→TyI} {fs:FL} {L:TL} {v:ResultVar} {y:Av} {c:Option (Tok×Tok)} (h:rvA Y fs L v=some (y,c)) (hc : ∀ t u,c=some (t,u)→t=u):ResIs Y fs L v y:=by
  unfold rvA at h
  split at h
  · split at h
    · rename_i h1;cases h;exact .tmp (asA_spec h1)
    · cases h
  · split at h
    · rename_i k off h1
      split at h
      · rename_i tk cs Tb h2
        have hl:=tkB_spec h2
        split at h
        · rename_i hT
          split at h
          · rename_i hy;cases h;rw [hc _ _ rfl] at hl;exact .one (asP_spec h1) hl hT hy
          · cases h
        · rename_i hT
          split at h
          · rename_i hb;rw [frc_eq] at h;cases h;rw [hc _ _ rfl] at hl;exact .st (asP_spec h1) hl hT rfl hb
          · cases h
        · cases h
      · cases h
    · cases h
theorem rvL_spec {Y:TypeId→TyI} {fs:FL} {L:TL} : ∀ {l:List ResultVar} {ys:List Av} {a:List Tok},rvL Y fs L l=some (ys,a,a)→(∀ p∈l.zip ys,ResIs Y fs L p.1 p.2)∧(l.zip ys).map (·.1)=l∧(l.zip ys).map (·.2)=ys
  | [], ys, a, h => by cases h; exact ⟨fun p hp => by simp at hp, rfl, rfl⟩
  | v :: l, ys, a, h => by
    unfold rvL at h
    split at h
    · rename_i y c h1
      split at h
      · rename_i ys' a' b' h2
        have key : ∀ {a:List Tok},rvL Y fs L l=some (ys',a,a)→(∀ t u,c=some (t,u)→t=u)→(∀ p∈(v::l).zip (y::ys'),ResIs Y fs L p.1 p.2)∧((v::l).zip (y::ys')).map (·.1)=v::l∧((v::l).zip (y::ys')).map (·.2)=y::ys':=by
          intro a h2 hc
          obtain ⟨r1,r2,r3⟩:=rvL_spec h2
          refine ⟨fun p hp=>?_,?_,?_⟩
          · rw [List.zip_cons_cons] at hp
            rcases List.mem_cons.1 hp with rfl | hp
            · exact rvA_spec h1 hc
            · exact r1 p hp
          · rw [List.zip_cons_cons,List.map_cons,r2]
          · rw [List.zip_cons_cons,List.map_cons,r3]
        split at h
        · simp only [Option.some.injEq,Prod.mk.injEq] at h
          obtain ⟨rfl,e1,e2⟩:=h
          rw [← e2] at e1
          injection e1 with e3 e4
          subst e3 e4
          exact key h2 (fun t u hh=>by cases hh;rfl)
        · simp only [Option.some.injEq,Prod.mk.injEq] at h
          obtain ⟨rfl,e1,e2⟩:=h
          subst e1 e2
          exact key h2 (fun t u hh=>by cases hh)
      · cases h
    · cases h
theorem M.z {P : Program} (Y : Tys P) {fs : FL} {L : TL} {fn : Func} {to : List (Nat × Tok)} {ret : SV} {fr : List Nat} {F0 : Foot} {W : World} {β0 : Env} {N : Nat} {e : Exit} {ys : List Av} {a ts : List Tok} (hx : e = .ret ∨ e = .normal) (ρ : List (Nat × Nat))
    (h : ∀ β:Env,((rvL Y.f fs L fn.results.toList,getR L ρ to),((ρ.all (fun p=>Nat.ble 20 p.1)&&(ndB ((to.map (·.1)).map (rn ρ))&&(fr.all (fun k=>Nat.ble 20 k)&&ksB (ret.ks++to.flatMap (·.2.ks)) fr))),retOf ys),to.map fun p=>p.2.r fun k=>β (rn ρ k))=((some (ys,a,a),some ts),(true,ret.ren (rn ρ)),ts.map fun t=>t.r β)) :
    At ⟨W,F0,β0,N,[]⟩ fs L (SQ P [] (bodyPost P fn (Ret F0 W fr β0 ret to)) e):=by
  have h0:=h β0
  simp only [Prod.mk.injEq,Bool.and_eq_true] at h0
  obtain ⟨⟨h1,h2⟩,⟨⟨hρ,h3,h4,h5⟩,h6⟩,_⟩:=h0
  have h7:=getR_ren h2 fun β=>(Prod.mk.inj (Prod.mk.inj (h β)).2).2
  obtain ⟨r1,r2,r3⟩:=rvL_spec h1
  have hk20 : ∀ k,k<20→rn ρ k=k:=by
    intro k hk
    unfold rn
    cases hl:lk ρ k with
    | none => rfl
    | some j =>
      have:=List.all_eq_true.1 hρ _ (lk_mem hl)
      have:=Nat.le_of_ble_eq_true this
      simp at this;omega
  have hks : ∀ k∈ret.ks++to.flatMap (·.2.ks),k∈fr∨k<20:=fun k hk=>by
    have:=List.all_eq_true.1 h5 k hk
    rw [Bool.or_eq_true] at this
    rcases this with h | h
    · exact .inl (by simpa using h)
    · rw [Nat.blt_eq] at h;exact .inr h
  have hfr : ∀ k∈fr,20≤k:=fun k hk=>Nat.le_of_ble_eq_true (List.all_eq_true.1 h4 k hk)
  have key:At ⟨W,F0,β0,N,[]⟩ fs L (bodyPost P fn (Ret F0 W fr β0 ret to) .ret):=by
    intro ac w hh
    obtain ⟨β,F,g1,g2,g3,g4,g5,g6,g7,g8⟩:=hh
    have hrun:=res_run Y (fn:=fn) (l:=fn.results.toList.zip ys) (by rw [r2]) r1 g2 g6
    have e1:(results fn ac.tmps).run P w=.ok ((ret.ren (rn ρ)).den β) w:=by
      rw [hrun,← h6]
      congr 1
      have e2:((fn.results.toList.zip ys).map fun p=>p.2.den β)=ys.map (Av.den β):=by
        have:(fn.results.toList.zip ys).map (fun p=>p.2.den β)=((fn.results.toList.zip ys).map (·.2)).map (Av.den β):=by rw [List.map_map];rfl
        rw [this,r3]
      match ys,e2 with
      | [], e2 => simp only [e2]; rfl
      | [p], e2 => simp only [e2]; rfl
      | p :: q :: r, e2 => simp only [e2]; simp [retOf, SV.den]
    rw [SV.den_ren] at e1
    refine ⟨g5,_,e1,?_⟩
    have hnd:((to.map (·.1)).map (rn ρ)).Nodup:=ndB_spec h3
    have mk : ∀ {to:List (Nat×Tok)} {ts:List Tok},RenL (rn ρ) L to ts→∃ to':List (Nat×Tok),(∀ p∈to',lkT L p.1=some p.2)∧to'.map (·.1)=(to.map (·.1)).map (rn ρ)∧(to'.map fun p=>p.2.r β)=to.map fun p=>p.2.r fun k=>β (rn ρ k):=by
      intro to
      induction to with
      | nil => intro ts h; exact ⟨[], fun p hp => (by cases hp), rfl, rfl⟩
      | cons p to ih =>
        intro ts h
        cases ts with
        | nil => exact h.elim
        | cons t ts =>
          obtain ⟨to',a1,a2,a3⟩:=ih h.2.2
          refine ⟨(rn ρ p.1,t)::to',fun q hq=>?_,?_,?_⟩
          · rcases List.mem_cons.1 hq with rfl | hq
            · exact h.1
            · exact a1 q hq
          · simp only [List.map_cons,a2]
          · simp only [List.map_cons,a3,h.2.1 β]
    obtain ⟨to',a1,a2,a3⟩:=mk h7
    obtain ⟨F',hs,hF'⟩:=star_end g6 a1 (by rw [a2];exact hnd)
    have heq : ∀ k,k∈fr∨k<20→(fun k=>β (rn ρ k)) k=(fun k=>if k∈fr then β (rn ρ k) else β0 k) k:=by
      intro k hk
      by_cases e:k∈fr
      · simp only [if_pos e]
      · have:=hk.resolve_left e
        simp only [if_neg e,hk20 k this];exact g1 k this
    refine ⟨fun k=>if k∈fr then β (rn ρ k) else β0 k,fun k hk=>if_neg hk,?_,F',?_,fun b hb=>g7 b (hF' b hb),g8⟩
    · congr 1
      exact SV.den_congr ret (fun k hk=>heq k (hks k (List.mem_append_left _ hk)))
    · have:(to.map fun p=>p.2.r (fun k=>β (rn ρ k)))=to.map fun p=>p.2.r (fun k=>if k∈fr then β (rn ρ k) else β0 k):=List.map_congr_left (fun p hp=>p.2.sup (fun k hk=>heq k (hks k (List.mem_append_right _ (List.mem_flatMap.2 ⟨p,hp,hk⟩)))))
      rw [← this,← a3];exact hs
  rcases hx with rfl | rfl
  · exact key
  · exact key
theorem renP_of {f:Nat→Nat} : ∀ {l m:List (Nat×Tok)},(∀ β:Env,(l.map fun p=>p.2.r fun k=>β (f k))=m.map fun p=>p.2.r β)→RenP f l m
  | [], [], _ => trivial
  | p :: l, q :: m, h => ⟨fun β => (List.cons.inj (h β)).1, renP_of fun β => (List.cons.inj (h β)).2⟩
  | [], _ :: _, h => by have := h fun _ => ⟨0, .bool false⟩; cases this
  | _ :: _, [], h => by have := h fun _ => ⟨0, .bool false⟩; cases this
theorem cnA {P : Program} {fn : FuncId} {args args' : List SV} {ti to ti' to' : List (Nat × Tok)} {ret ret' : SV} (ρ : List (Nat × Nat)) (h : SCon P fn args ti ret to [])
    (hr : ∀ β:Env,((args.map (SV.ren (rn ρ)),ret.ren (rn ρ)),(ti.map fun p=>p.2.r fun k=>β (rn ρ k)),(to.map fun p=>p.2.r fun k=>β (rn ρ k)))=((args',ret'),(ti'.map fun p=>p.2.r β),(to'.map fun p=>p.2.r β)):=by intro _;rfl):SCon P fn args' ti' ret' to' []:=by
  have h0:=(Prod.mk.inj (Prod.mk.inj (hr fun _=>⟨0,.bool false⟩)).1)
  have:=SCon.ren (rn ρ) h (renP_of fun β=>(Prod.mk.inj (Prod.mk.inj (hr β)).2).1) (renP_of fun β=>(Prod.mk.inj (Prod.mk.inj (hr β)).2).2) (by simp) (by simp)
  rw [h0.1,h0.2] at this
  exact this
theorem cnB {P : Program} {fn : FuncId} {args args' : List SV} {ti to ti' to' : List (Nat × Tok)} {ret ret' : SV} {fr fr' : List Nat} (ρ : List (Nat × Nat)) (hd : ndB (ρ.map (·.2)) = true) (h : SCon P fn args ti ret to fr)
    (hr : ∀ β:Env,(((args.map (SV.ren (rn ρ)),ret.ren (rn ρ)),fr.map (rn ρ),(ndB (ρ.map (·.1))&&(ndB fr&&(fr.all (fun k=>(ρ.map (·.1)).contains k)&&(ret.ks++to.flatMap (·.2.ks)).all (fun k=>(ρ.map (·.1)).contains k))))),(ti.map fun p=>p.2.r fun k=>β (rn ρ k)),(to.map fun p=>p.2.r fun k=>β (rn ρ k)))=(((args',ret'),fr',true),(ti'.map fun p=>p.2.r β),(to'.map fun p=>p.2.r β)):=by intro _;rfl):SCon P fn args' ti' ret' to' fr':=by
  have h0:=(Prod.mk.inj (hr fun _=>⟨0,.bool false⟩)).1
  simp only [Prod.mk.injEq,Bool.and_eq_true] at h0
  obtain ⟨⟨h1,h2⟩,h3,h4,h5,h6,h7⟩:=h0
  have:=SCon.ren (rn ρ) h (renP_of fun β=>(Prod.mk.inj (Prod.mk.inj (hr β)).2).1) (renP_of fun β=>(Prod.mk.inj (Prod.mk.inj (hr β)).2).2) (rn_nd hd h4 (by rw [Bool.and_eq_true];exact ⟨h5,h6⟩)) (rn_ks hd h4 h7 h6)
  rw [h1,h2,h3] at this
  exact this
end Go.Proofs.YtgjbibabegabnaaGreat.Sx
namespace Go.Proofs.YtgjbibabegabnaaGreat
open Go Go.Proofs.YtgjbibabegabnaaGreat.Sx
def tysF:TypeId→TyI
  | 1 => .one (.nilFunc)
  | 2 => .one (.int .i64 0)
  | 3 => .one (.int .i64 0)
  | 4 => .one (.bool false)
  | 5 => .one (.int .u8 0)
  | 6 => .one (.int .u8 0)
  | 7 => .st 4 [(0, 1, 2), (1, 1, 3), (2, 1, 4), (3, 1, 6)] [.int .i64 0, .int .i64 0, .bool false, .int .u8 0]
  | 8 => .st 4 [(0, 1, 2), (1, 1, 3), (2, 1, 4), (3, 1, 6)] [.int .i64 0, .int .i64 0, .bool false, .int .u8 0]
  | 9 => .one (.string ⟨#[]⟩)
  | 10 => .one (.string ⟨#[]⟩)
  | 11 => .one (.string ⟨#[]⟩)
  | 12 => .one (.int .u64 0)
  | 13 => .st 2 [(0, 1, 9), (1, 1, 12)] [.string ⟨#[]⟩, .int .u64 0]
  | 14 => .st 2 [(0, 1, 9), (1, 1, 12)] [.string ⟨#[]⟩, .int .u64 0]
  | 15 => .one (.pointer .none)
  | 16 => .one (.pointer .none)
  | 17 => .one (.pointer .none)
  | 18 => .st 1 [(0, 1, 17)] [.pointer .none]
  | 19 => .st 1 [(0, 1, 17)] [.pointer .none]
  | 20 => .one (.nilIface)
  | 21 => .one (.int .i32 0)
  | 22 => .one (.nilFunc)
  | 23 => .one (.pointer .none)
  | 24 => .one (.nilFunc)
  | 25 => .one (.int .i64 0)
  | 26 => .one (.nilFunc)
  | 27 => .st 2 [(0, 1, 3), (1, 1, 3)] [.int .i64 0, .int .i64 0]
  | 28 => .st 2 [(0, 1, 3), (1, 1, 3)] [.int .i64 0, .int .i64 0]
  | 29 => .one (.nilFunc)
  | 30 => .one (.nilFunc)
  | 31 => .one (.nilFunc)
  | 32 => .one (.nilFunc)
  | 33 => .one (.slice .none 0 0)
  | 34 => .one (.slice .none 0 0)
  | 36 => .one (.nilFunc)
  | 37 => .st 5 [(0, 1, 3), (1, 1, 3), (2, 1, 4), (3, 2, 28)] [.int .i64 0, .int .i64 0, .bool false, .int .i64 0, .int .i64 0]
  | 38 => .st 5 [(0, 1, 3), (1, 1, 3), (2, 1, 4), (3, 2, 28)] [.int .i64 0, .int .i64 0, .bool false, .int .i64 0, .int .i64 0]
  | 39 => .one (.nilFunc)
  | 40 => .one (.slice .none 0 0)
  | 41 => .st 1 [(0, 1, 40)] [.slice .none 0 0]
  | 42 => .st 1 [(0, 1, 40)] [.slice .none 0 0]
  | 43 => .one (.nilFunc)
  | 44 => .st 4 [(0, 1, 3), (1, 1, 4), (2, 2, 28)] [.int .i64 0, .bool false, .int .i64 0, .int .i64 0]
  | 45 => .st 4 [(0, 1, 3), (1, 1, 4), (2, 2, 28)] [.int .i64 0, .bool false, .int .i64 0, .int .i64 0]
  | 47 => .one (.nilFunc)
  | 48 => .one (.nilFunc)
  | 49 => .one (.nilFunc)
  | 50 => .one (.nilFunc)
  | 51 => .one (.nilFunc)
  | 52 => .one (.nilFunc)
  | 53 => .one (.nilFunc)
  | 54 => .one (.slice .none 0 0)
  | 55 => .one (.nilFunc)
  | 56 => .one (.pointer .none)
  | 57 => .st 2 [(0, 1, 3), (1, 1, 56)] [.int .i64 0, .pointer .none]
  | 58 => .st 2 [(0, 1, 3), (1, 1, 56)] [.int .i64 0, .pointer .none]
  | 59 => .one (.nilFunc)
  | 60 => .one (.pointer .none)
  | 61 => .st 9 [(0, 4, 45), (4, 1, 4), (5, 1, 56), (6, 1, 56), (7, 1, 3), (8, 1, 60)] [.int .i64 0, .bool false, .int .i64 0, .int .i64 0, .bool false, .pointer .none, .pointer .none, .int .i64 0, .pointer .none]
  | 62 => .st 9 [(0, 4, 45), (4, 1, 4), (5, 1, 56), (6, 1, 56), (7, 1, 3), (8, 1, 60)] [.int .i64 0, .bool false, .int .i64 0, .int .i64 0, .bool false, .pointer .none, .pointer .none, .int .i64 0, .pointer .none]
  | 63 => .st 2 [(0, 1, 54), (1, 1, 54)] [.slice .none 0 0, .slice .none 0 0]
  | 64 => .st 2 [(0, 1, 54), (1, 1, 54)] [.slice .none 0 0, .slice .none 0 0]
  | 66 => .one (.nilFunc)
  | 67 => .one (.nilFunc)
  | 68 => .one (.nilFunc)
  | 69 => .one (.nilFunc)
  | 70 => .one (.nilFunc)
  | 71 => .one (.nilFunc)
  | 72 => .one (.nilFunc)
  | 73 => .one (.nilFunc)
  | 74 => .one (.nilFunc)
  | 75 => .one (.pointer .none)
  | 76 => .st 3 [(0, 1, 4), (1, 2, 28)] [.bool false, .int .i64 0, .int .i64 0]
  | 77 => .st 3 [(0, 1, 4), (1, 2, 28)] [.bool false, .int .i64 0, .int .i64 0]
  | 78 => .st 4 [(0, 1, 75), (1, 3, 77)] [.pointer .none, .bool false, .int .i64 0, .int .i64 0]
  | 79 => .st 4 [(0, 1, 75), (1, 3, 77)] [.pointer .none, .bool false, .int .i64 0, .int .i64 0]
  | 80 => .one (.nilFunc)
  | 81 => .st 4 [(0, 2, 28), (2, 1, 4), (3, 1, 3)] [.int .i64 0, .int .i64 0, .bool false, .int .i64 0]
  | 82 => .st 4 [(0, 2, 28), (2, 1, 4), (3, 1, 3)] [.int .i64 0, .int .i64 0, .bool false, .int .i64 0]
  | 84 => .one (.nilFunc)
  | 85 => .one (.int .i64 0)
  | 86 => .one (.nilFunc)
  | 87 => .one (.nilFunc)
  | 88 => .one (.nilFunc)
  | 89 => .one (.nilFunc)
  | 90 => .one (.nilFunc)
  | 91 => .one (.nilFunc)
  | 92 => .one (.nilFunc)
  | 93 => .one (.nilFunc)
  | 94 => .one (.nilFunc)
  | 95 => .one (.nilFunc)
  | 96 => .one (.nilFunc)
  | 97 => .one (.pointer .none)
  | 98 => .st 6 [(0, 1, 3), (1, 1, 97), (2, 1, 75), (3, 1, 75), (4, 1, 75), (5, 1, 3)] [.int .i64 0, .pointer .none, .pointer .none, .pointer .none, .pointer .none, .int .i64 0]
  | 99 => .st 6 [(0, 1, 3), (1, 1, 97), (2, 1, 75), (3, 1, 75), (4, 1, 75), (5, 1, 3)] [.int .i64 0, .pointer .none, .pointer .none, .pointer .none, .pointer .none, .int .i64 0]
  | 100 => .st 8 [(0, 4, 45), (4, 1, 4), (5, 3, 77)] [.int .i64 0, .bool false, .int .i64 0, .int .i64 0, .bool false, .bool false, .int .i64 0, .int .i64 0]
  | 101 => .st 8 [(0, 4, 45), (4, 1, 4), (5, 3, 77)] [.int .i64 0, .bool false, .int .i64 0, .int .i64 0, .bool false, .bool false, .int .i64 0, .int .i64 0]
  | 102 => .st 3 [(0, 1, 3), (1, 1, 3), (2, 1, 3)] [.int .i64 0, .int .i64 0, .int .i64 0]
  | 103 => .st 3 [(0, 1, 3), (1, 1, 3), (2, 1, 3)] [.int .i64 0, .int .i64 0, .int .i64 0]
  | 104 => .st 16 [(0, 3, 103), (3, 3, 103), (6, 1, 3), (7, 1, 3), (8, 2, 28), (10, 3, 77), (13, 3, 77)] [.int .i64 0, .int .i64 0, .int .i64 0, .int .i64 0, .int .i64 0, .int .i64 0, .int .i64 0, .int .i64 0, .int .i64 0, .int .i64 0, .bool false, .int .i64 0, .int .i64 0, .bool false, .int .i64 0, .int .i64 0]
  | 105 => .st 16 [(0, 3, 103), (3, 3, 103), (6, 1, 3), (7, 1, 3), (8, 2, 28), (10, 3, 77), (13, 3, 77)] [.int .i64 0, .int .i64 0, .int .i64 0, .int .i64 0, .int .i64 0, .int .i64 0, .int .i64 0, .int .i64 0, .int .i64 0, .int .i64 0, .bool false, .int .i64 0, .int .i64 0, .bool false, .int .i64 0, .int .i64 0]
  | 107 => .one (.nilFunc)
  | 108 => .one (.nilFunc)
  | 109 => .one (.nilFunc)
  | 110 => .one (.nilFunc)
  | 111 => .one (.slice .none 0 0)
  | 112 => .one (.nilFunc)
  | 113 => .one (.nilFunc)
  | 114 => .one (.nilFunc)
  | 115 => .one (.nilFunc)
  | 116 => .one (.nilFunc)
  | 117 => .one (.pointer .none)
  | 118 => .st 2 [(0, 1, 3), (1, 1, 3)] [.int .i64 0, .int .i64 0]
  | 119 => .st 2 [(0, 1, 3), (1, 1, 3)] [.int .i64 0, .int .i64 0]
  | 120 => .st 3 [(0, 1, 117), (1, 2, 119)] [.pointer .none, .int .i64 0, .int .i64 0]
  | 121 => .st 3 [(0, 1, 117), (1, 2, 119)] [.pointer .none, .int .i64 0, .int .i64 0]
  | 122 => .st 10 [(0, 4, 82), (4, 2, 119), (6, 2, 119), (8, 1, 3), (9, 1, 85)] [.int .i64 0, .int .i64 0, .bool false, .int .i64 0, .int .i64 0, .int .i64 0, .int .i64 0, .int .i64 0, .int .i64 0, .int .i64 0]
  | 123 => .st 10 [(0, 4, 82), (4, 2, 119), (6, 2, 119), (8, 1, 3), (9, 1, 85)] [.int .i64 0, .int .i64 0, .bool false, .int .i64 0, .int .i64 0, .int .i64 0, .int .i64 0, .int .i64 0, .int .i64 0, .int .i64 0]
  | 124 => .one (.nilFunc)
  | 125 => .one (.nilFunc)
  | 126 => .one (.nilFunc)
  | 127 => .one (.slice .none 0 0)
  | 129 => .one (.nilFunc)
  | 130 => .one (.slice .none 0 0)
  | 131 => .one (.nilFunc)
  | 132 => .one (.nilFunc)
  | 133 => .one (.nilFunc)
  | 134 => .one (.nilFunc)
  | 135 => .one (.nilFunc)
  | 136 => .one (.nilFunc)
  | 137 => .one (.nilFunc)
  | 138 => .one (.nilFunc)
  | 139 => .st 29 [(0, 8, 101), (8, 2, 119), (10, 2, 119), (12, 1, 3), (13, 16, 105)] [.int .i64 0, .bool false, .int .i64 0, .int .i64 0, .bool false, .bool false, .int .i64 0, .int .i64 0, .int .i64 0, .int .i64 0, .int .i64 0, .int .i64 0, .int .i64 0, .int .i64 0, .int .i64 0, .int .i64 0, .int .i64 0, .int .i64 0, .int .i64 0, .int .i64 0, .int .i64 0, .int .i64 0, .int .i64 0, .bool false, .int .i64 0, .int .i64 0, .bool false, .int .i64 0, .int .i64 0]
  | 140 => .st 29 [(0, 8, 101), (8, 2, 119), (10, 2, 119), (12, 1, 3), (13, 16, 105)] [.int .i64 0, .bool false, .int .i64 0, .int .i64 0, .bool false, .bool false, .int .i64 0, .int .i64 0, .int .i64 0, .int .i64 0, .int .i64 0, .int .i64 0, .int .i64 0, .int .i64 0, .int .i64 0, .int .i64 0, .int .i64 0, .int .i64 0, .int .i64 0, .int .i64 0, .int .i64 0, .int .i64 0, .int .i64 0, .bool false, .int .i64 0, .int .i64 0, .bool false, .int .i64 0, .int .i64 0]
  | 141 => .one (.nilFunc)
  | 142 => .one (.pointer .none)
  | 143 => .st 3 [(0, 1, 142), (1, 2, 119)] [.pointer .none, .int .i64 0, .int .i64 0]
  | 144 => .st 3 [(0, 1, 142), (1, 2, 119)] [.pointer .none, .int .i64 0, .int .i64 0]
  | 145 => .one (.nilFunc)
  | 146 => .one (.nilFunc)
  | 147 => .one (.nilFunc)
  | 148 => .one (.nilFunc)
  | 150 => .one (.nilFunc)
  | 152 => .one (.nilFunc)
  | 153 => .one (.nilFunc)
  | 154 => .one (.nilFunc)
  | 155 => .one (.nilFunc)
  | 156 => .one (.nilFunc)
  | 157 => .one (.nilFunc)
  | 158 => .one (.nilFunc)
  | 160 => .one (.nilFunc)
  | 161 => .one (.slice .none 0 0)
  | 162 => .one (.nilFunc)
  | 163 => .one (.nilFunc)
  | 164 => .one (.nilFunc)
  | 165 => .one (.nilFunc)
  | 166 => .one (.nilFunc)
  | 167 => .one (.nilFunc)
  | 168 => .one (.nilFunc)
  | 169 => .one (.nilFunc)
  | 171 => .one (.nilFunc)
  | 172 => .one (.nilFunc)
  | 173 => .one (.nilFunc)
  | 174 => .one (.nilFunc)
  | 175 => .one (.nilFunc)
  | 176 => .one (.nilFunc)
  | 177 => .one (.nilFunc)
  | 178 => .one (.nilFunc)
  | 179 => .one (.nilFunc)
  | 180 => .one (.pointer .none)
  | 181 => .one (.nilFunc)
  | 182 => .st 12 [(0, 10, 123), (10, 1, 3), (11, 1, 4)] [.int .i64 0, .int .i64 0, .bool false, .int .i64 0, .int .i64 0, .int .i64 0, .int .i64 0, .int .i64 0, .int .i64 0, .int .i64 0, .int .i64 0, .bool false]
  | 183 => .st 12 [(0, 10, 123), (10, 1, 3), (11, 1, 4)] [.int .i64 0, .int .i64 0, .bool false, .int .i64 0, .int .i64 0, .int .i64 0, .int .i64 0, .int .i64 0, .int .i64 0, .int .i64 0, .int .i64 0, .bool false]
  | 184 => .one (.nilFunc)
  | 185 => .one (.nilFunc)
  | 186 => .one (.nilFunc)
  | 187 => .one (.nilFunc)
  | 188 => .one (.int .u64 0)
  | 190 => .one (.nilFunc)
  | 191 => .one (.nilFunc)
  | 192 => .one (.pointer .none)
  | 193 => .one (.nilFunc)
  | 194 => .st 31 [(0, 29, 140), (29, 1, 3), (30, 1, 4)] [.int .i64 0, .bool false, .int .i64 0, .int .i64 0, .bool false, .bool false, .int .i64 0, .int .i64 0, .int .i64 0, .int .i64 0, .int .i64 0, .int .i64 0, .int .i64 0, .int .i64 0, .int .i64 0, .int .i64 0, .int .i64 0, .int .i64 0, .int .i64 0, .int .i64 0, .int .i64 0, .int .i64 0, .int .i64 0, .bool false, .int .i64 0, .int .i64 0, .bool false, .int .i64 0, .int .i64 0, .int .i64 0, .bool false]
  | 195 => .st 31 [(0, 29, 140), (29, 1, 3), (30, 1, 4)] [.int .i64 0, .bool false, .int .i64 0, .int .i64 0, .bool false, .bool false, .int .i64 0, .int .i64 0, .int .i64 0, .int .i64 0, .int .i64 0, .int .i64 0, .int .i64 0, .int .i64 0, .int .i64 0, .int .i64 0, .int .i64 0, .int .i64 0, .int .i64 0, .int .i64 0, .int .i64 0, .int .i64 0, .int .i64 0, .bool false, .int .i64 0, .int .i64 0, .bool false, .int .i64 0, .int .i64 0, .int .i64 0, .bool false]
  | 196 => .one (.nilFunc)
  | 197 => .one (.nilFunc)
  | 198 => .one (.nilFunc)
  | 199 => .one (.slice .none 0 0)
  | 200 => .st 5 [(0, 1, 199), (1, 1, 161), (2, 1, 3), (3, 1, 3), (4, 1, 3)] [.slice .none 0 0, .slice .none 0 0, .int .i64 0, .int .i64 0, .int .i64 0]
  | 201 => .st 5 [(0, 1, 199), (1, 1, 161), (2, 1, 3), (3, 1, 3), (4, 1, 3)] [.slice .none 0 0, .slice .none 0 0, .int .i64 0, .int .i64 0, .int .i64 0]
  | 203 => .one (.nilFunc)
  | 205 => .one (.nilFunc)
  | 206 => .one (.slice .none 0 0)
  | 207 => .st 5 [(0, 1, 206), (1, 1, 161), (2, 1, 3), (3, 1, 3), (4, 1, 3)] [.slice .none 0 0, .slice .none 0 0, .int .i64 0, .int .i64 0, .int .i64 0]
  | 208 => .st 5 [(0, 1, 206), (1, 1, 161), (2, 1, 3), (3, 1, 3), (4, 1, 3)] [.slice .none 0 0, .slice .none 0 0, .int .i64 0, .int .i64 0, .int .i64 0]
  | 209 => .one (.nilFunc)
  | 210 => .one (.int .i64 0)
  | 212 => .one (.nilFunc)
  | 213 => .one (.nilFunc)
  | 214 => .one (.nilFunc)
  | 216 => .one (.nilFunc)
  | 217 => .one (.nilFunc)
  | 218 => .one (.int .u32 0)
  | 219 => .one (.nilFunc)
  | 220 => .one (.int .u64 0)
  | 221 => .one (.nilFunc)
  | 222 => .one (.nilFunc)
  | 223 => .one (.nilFunc)
  | 224 => .one (.nilFunc)
  | 225 => .one (.nilFunc)
  | 226 => .one (.nilFunc)
  | 227 => .one (.nilFunc)
  | 228 => .one (.nilFunc)
  | 229 => .one (.nilFunc)
  | 230 => .one (.int .u64 0)
  | 231 => .one (.nilFunc)
  | 232 => .one (.nilFunc)
  | 233 => .one (.nilFunc)
  | 234 => .one (.pointer .none)
  | 235 => .one (.nilFunc)
  | 236 => .one (.pointer .none)
  | 238 => .one (.nilFunc)
  | 239 => .one (.nilFunc)
  | 240 => .st 4 [(0, 1, 17), (1, 1, 17), (2, 1, 17), (3, 1, 9)] [.pointer .none, .pointer .none, .pointer .none, .string ⟨#[]⟩]
  | 241 => .st 4 [(0, 1, 17), (1, 1, 17), (2, 1, 17), (3, 1, 9)] [.pointer .none, .pointer .none, .pointer .none, .string ⟨#[]⟩]
  | 245 => .one (.int .u8 0)
  | 246 => .one (.int .u8 0)
  | 247 => .one (.nilFunc)
  | 248 => .one (.pointer .none)
  | 249 => .one (.int .i32 0)
  | 250 => .one (.int .i32 0)
  | 251 => .st 11 [(0, 1, 12), (1, 1, 12), (2, 1, 218), (3, 1, 245), (4, 1, 5), (5, 1, 5), (6, 1, 246), (7, 1, 247), (8, 1, 248), (9, 1, 249), (10, 1, 250)] [.int .u64 0, .int .u64 0, .int .u32 0, .int .u8 0, .int .u8 0, .int .u8 0, .int .u8 0, .nilFunc, .pointer .none, .int .i32 0, .int .i32 0]
  | 252 => .st 11 [(0, 1, 12), (1, 1, 12), (2, 1, 218), (3, 1, 245), (4, 1, 5), (5, 1, 5), (6, 1, 246), (7, 1, 247), (8, 1, 248), (9, 1, 249), (10, 1, 250)] [.int .u64 0, .int .u64 0, .int .u32 0, .int .u8 0, .int .u8 0, .int .u8 0, .int .u8 0, .nilFunc, .pointer .none, .int .i32 0, .int .i32 0]
  | 253 => .one (.nilFunc)
  | 254 => .one (.nilFunc)
  | 255 => .one (.nilFunc)
  | 256 => .one (.nilFunc)
  | 257 => .one (.nilFunc)
  | 258 => .one (.nilFunc)
  | 259 => .one (.nilFunc)
  | 260 => .one (.nilFunc)
  | 261 => .one (.nilFunc)
  | 262 => .one (.nilFunc)
  | 263 => .one (.nilFunc)
  | 264 => .one (.pointer .none)
  | 265 => .one (.nilFunc)
  | _ => .none
theorem tysB:(List.range 266).all (fun T=>tyB Tryz.prog T (tysF T))=true:=by kernel_rfl
def Y:Tys Tryz.prog:=⟨fun T=>match Nat.blt T 266 with | true=>tysF T | false=>.none,fun T=>by
  cases h:Nat.blt T 266 with
  | true =>
    rw [Nat.blt_eq] at h
    exact tyOk_of (List.all_eq_true.1 tysB T (List.mem_range.2 h))
  | false => trivial⟩
def cfL:List Nat:=[3,4,5,6,7,8,9,10,11,12,13,14,15,16,17,18,19,20,21,22,23,24,25,26,27,28,29,30,31,32,33,34,35,36,37,38,39,40,41,42,43,44,45,46,47,48,49,50,51,52,53,54,55,56,57,58,59,60,61,62,63,64,65,66,67,68,69,70,71,72,73,74,75,76,77,78,79,80,81,82,83,84,85,86,87,88,89,90,91,92,93,94,95,96,97,98,99,100,101,102,103,104,105,106,107,108,109,110,111,112,113,114,115,116,117,118,119,120,121,122,123,124,125,126,127,128,129,130,131,132,133,134,135,136,137,138,139,140,141,142,143,144,145,146,147,148,149,150,151,152,153,154,155,156,157,158,159,160,161,162,163,164,165,166,167,168,169,170,171,172,173,174,175,176,201,202,203,206,207,208,209,211,212,213]
theorem cfB:cfL.all (fun f=>fnB Tryz.prog f)=true:=by kernel_rfl
theorem cf (f:Nat) (h:cfL.contains f=true):fnB Tryz.prog f=true:=List.all_eq_true.1 cfB f (by simpa using h)
theorem mixed:Tryz.prog.follows .mixedOrders=true:=by kernel_rfl
theorem t1:Y.f 1=.one (.nilFunc):=by kernel_rfl
theorem t2:Y.f 2=.one (.int .i64 0):=by kernel_rfl
theorem t3:Y.f 3=.one (.int .i64 0):=by kernel_rfl
theorem t4:Y.f 4=.one (.bool false):=by kernel_rfl
theorem t5:Y.f 5=.one (.int .u8 0):=by kernel_rfl
theorem t9:Y.f 9=.one (.string ⟨#[]⟩):=by kernel_rfl
theorem t22:Y.f 22=.one (.nilFunc):=by kernel_rfl
theorem t25:Y.f 25=.one (.int .i64 0):=by kernel_rfl
theorem t28:Y.f 28=.st 2 [(0,1,3),(1,1,3)] [.int .i64 0,.int .i64 0]:=by kernel_rfl
theorem t38:Y.f 38=.st 5 [(0,1,3),(1,1,3),(2,1,4),(3,2,28)] [.int .i64 0,.int .i64 0,.bool false,.int .i64 0,.int .i64 0]:=by kernel_rfl
theorem t39:Y.f 39=.one (.nilFunc):=by kernel_rfl
theorem t42:Y.f 42=.st 1 [(0,1,40)] [.slice .none 0 0]:=by kernel_rfl
theorem t45:Y.f 45=.st 4 [(0,1,3),(1,1,4),(2,2,28)] [.int .i64 0,.bool false,.int .i64 0,.int .i64 0]:=by kernel_rfl
theorem t50:Y.f 50=.one (.nilFunc):=by kernel_rfl
theorem t53:Y.f 53=.one (.nilFunc):=by kernel_rfl
theorem t54:Y.f 54=.one (.slice .none 0 0):=by kernel_rfl
theorem t55:Y.f 55=.one (.nilFunc):=by kernel_rfl
theorem t56:Y.f 56=.one (.pointer .none):=by kernel_rfl
theorem t58:Y.f 58=.st 2 [(0,1,3),(1,1,56)] [.int .i64 0,.pointer .none]:=by kernel_rfl
theorem t60:Y.f 60=.one (.pointer .none):=by kernel_rfl
theorem t62:Y.f 62=.st 9 [(0,4,45),(4,1,4),(5,1,56),(6,1,56),(7,1,3),(8,1,60)] [.int .i64 0,.bool false,.int .i64 0,.int .i64 0,.bool false,.pointer .none,.pointer .none,.int .i64 0,.pointer .none]:=by kernel_rfl
theorem t66:Y.f 66=.one (.nilFunc):=by kernel_rfl
theorem t70:Y.f 70=.one (.nilFunc):=by kernel_rfl
theorem t76:Y.f 76=.st 3 [(0,1,4),(1,2,28)] [.bool false,.int .i64 0,.int .i64 0]:=by kernel_rfl
theorem t77:Y.f 77=.st 3 [(0,1,4),(1,2,28)] [.bool false,.int .i64 0,.int .i64 0]:=by kernel_rfl
theorem t79:Y.f 79=.st 4 [(0,1,75),(1,3,77)] [.pointer .none,.bool false,.int .i64 0,.int .i64 0]:=by kernel_rfl
theorem t82:Y.f 82=.st 4 [(0,2,28),(2,1,4),(3,1,3)] [.int .i64 0,.int .i64 0,.bool false,.int .i64 0]:=by kernel_rfl
theorem t101:Y.f 101=.st 8 [(0,4,45),(4,1,4),(5,3,77)] [.int .i64 0,.bool false,.int .i64 0,.int .i64 0,.bool false,.bool false,.int .i64 0,.int .i64 0]:=by kernel_rfl
theorem t103:Y.f 103=.st 3 [(0,1,3),(1,1,3),(2,1,3)] [.int .i64 0,.int .i64 0,.int .i64 0]:=by kernel_rfl
theorem t105:Y.f 105=.st 16 [(0,3,103),(3,3,103),(6,1,3),(7,1,3),(8,2,28),(10,3,77),(13,3,77)] [.int .i64 0,.int .i64 0,.int .i64 0,.int .i64 0,.int .i64 0,.int .i64 0,.int .i64 0,.int .i64 0,.int .i64 0,.int .i64 0,.bool false,.int .i64 0,.int .i64 0,.bool false,.int .i64 0,.int .i64 0]:=by kernel_rfl
theorem t119:Y.f 119=.st 2 [(0,1,3),(1,1,3)] [.int .i64 0,.int .i64 0]:=by kernel_rfl
theorem t123:Y.f 123=.st 10 [(0,4,82),(4,2,119),(6,2,119),(8,1,3),(9,1,85)] [.int .i64 0,.int .i64 0,.bool false,.int .i64 0,.int .i64 0,.int .i64 0,.int .i64 0,.int .i64 0,.int .i64 0,.int .i64 0]:=by kernel_rfl
theorem t140:Y.f 140=.st 29 [(0,8,101),(8,2,119),(10,2,119),(12,1,3),(13,16,105)] [.int .i64 0,.bool false,.int .i64 0,.int .i64 0,.bool false,.bool false,.int .i64 0,.int .i64 0,.int .i64 0,.int .i64 0,.int .i64 0,.int .i64 0,.int .i64 0,.int .i64 0,.int .i64 0,.int .i64 0,.int .i64 0,.int .i64 0,.int .i64 0,.int .i64 0,.int .i64 0,.int .i64 0,.int .i64 0,.bool false,.int .i64 0,.int .i64 0,.bool false,.int .i64 0,.int .i64 0]:=by kernel_rfl
theorem t161:Y.f 161=.one (.slice .none 0 0):=by kernel_rfl
theorem t183:Y.f 183=.st 12 [(0,10,123),(10,1,3),(11,1,4)] [.int .i64 0,.int .i64 0,.bool false,.int .i64 0,.int .i64 0,.int .i64 0,.int .i64 0,.int .i64 0,.int .i64 0,.int .i64 0,.int .i64 0,.bool false]:=by kernel_rfl
theorem t195:Y.f 195=.st 31 [(0,29,140),(29,1,3),(30,1,4)] [.int .i64 0,.bool false,.int .i64 0,.int .i64 0,.bool false,.bool false,.int .i64 0,.int .i64 0,.int .i64 0,.int .i64 0,.int .i64 0,.int .i64 0,.int .i64 0,.int .i64 0,.int .i64 0,.int .i64 0,.int .i64 0,.int .i64 0,.int .i64 0,.int .i64 0,.int .i64 0,.int .i64 0,.int .i64 0,.bool false,.int .i64 0,.int .i64 0,.bool false,.int .i64 0,.int .i64 0,.int .i64 0,.bool false]:=by kernel_rfl
theorem t199:Y.f 199=.one (.slice .none 0 0):=by kernel_rfl
theorem t201:Y.f 201=.st 5 [(0,1,199),(1,1,161),(2,1,3),(3,1,3),(4,1,3)] [.slice .none 0 0,.slice .none 0 0,.int .i64 0,.int .i64 0,.int .i64 0]:=by kernel_rfl
theorem t206:Y.f 206=.one (.slice .none 0 0):=by kernel_rfl
theorem t208:Y.f 208=.st 5 [(0,1,206),(1,1,161),(2,1,3),(3,1,3),(4,1,3)] [.slice .none 0 0,.slice .none 0 0,.int .i64 0,.int .i64 0,.int .i64 0]:=by kernel_rfl
theorem cmp28:cmpB Tryz.prog 28 [true,true]=true:=by kernel_rfl
theorem el33:El Tryz.prog 33 38 5 40:=el_of (by kernel_rfl)
theorem el34:El Tryz.prog 34 45 4 32:=el_of (by kernel_rfl)
theorem el40:El Tryz.prog 40 79 4 32:=el_of (by kernel_rfl)
theorem el54:El Tryz.prog 54 28 2 16:=el_of (by kernel_rfl)
theorem el111:El Tryz.prog 111 101 8 64:=el_of (by kernel_rfl)
theorem el130:El Tryz.prog 130 82 4 32:=el_of (by kernel_rfl)
theorem el161:El Tryz.prog 161 3 1 8:=el_of (by kernel_rfl)
theorem el199:El Tryz.prog 199 195 31 248:=el_of (by kernel_rfl)
theorem el206:El Tryz.prog 206 183 12 96:=el_of (by kernel_rfl)
end Go.Proofs.YtgjbibabegabnaaGreat
namespace Go.Proofs.YtgjbibabegabnaaGreat
open Go Go.Proofs.YtgjbibabegabnaaGreat.Sx
theorem R {α:Sort _} {a:α}:a=a:=rfl
theorem e2 {α β:Type} {a c:α} {b d:β} (h:(a,b)=(c,d)):a=c∧b=d:=Prod.mk.inj h
theorem e3 {α β γ:Type} {a c:α} {b d:β} {x y:γ} (h:(a,b,x)=(c,d,y)):a=c∧b=d∧x=y:=⟨(e2 h).1,e2 (e2 h).2⟩
theorem e4 {α β γ δ:Type} {a c:α} {b d:β} {x y:γ} {z w:δ} (h:(a,b,x,z)=(c,d,y,w)):a=c∧b=d∧x=y∧z=w:=⟨(e2 h).1,e3 (e2 h).2⟩
section
variable {C:Ctx} {fs fs':FL} {L L':TL} {Q:Exit→Act→World→Prop} {stk stk':List Fr} {hd:Hd} {tk:List Tok}
theorem xg (m:Nat) (ns:List Nat) {c:Code} (h:mN Y.f C.n m (.co c) stk ns fs L=some (hd,stk',[],fs',L',tk,tk)) (hk:GH C Tryz.prog hd fs' L' stk' Q):G C Tryz.prog fs L c (SQ Tryz.prog stk Q):=M.g Y mixed m ns h hk
theorem xa (m:Nat) (ns:List Nat) {e:Exit} (h:mN Y.f C.n m (.at e) stk ns fs L=some (hd,stk',[],fs',L',tk,tk)) (hk:GH C Tryz.prog hd fs' L' stk' Q):At C fs L (SQ Tryz.prog stk Q e):=M.a Y mixed m ns h hk
theorem xk (m:Nat) (ns:List Nat) {ops:Array Oper} {rest:List Oper} (h:mN Y.f C.n m (.op ops rest) stk ns fs L=some (hd,stk',[],fs',L',tk,tk)) (hk:GH C Tryz.prog hd fs' L' stk' Q):RunK Tryz.prog C.n ops rest fs L (fun _ fs' L'=>At C fs' L' (SQ Tryz.prog stk Q .normal)):=M.k Y mixed m ns h hk
theorem xd (m:Nat) (ns:List Nat) {ops rest:List Oper} {pf:List Step→List Step} {fs0:FL} {L0:TL} (h:mN Y.f C.n m (.od ops rest pf fs0 L0) stk ns fs L=some (hd,stk',[],fs',L',tk,tk)) (hk:GH C Tryz.prog hd fs' L' stk' Q):RunK Tryz.prog C.n ops.toArray rest fs L (fun ss fs' L'=>parB ops (pf ss) fs0 L0=true∧At C fs' L' (SQ Tryz.prog stk Q .normal)):=M.d Y mixed m ns h hk
end
section
variable {fs:FL} {L:TL} {fn:Func} {to:List (Nat×Tok)} {ret:SV} {fr:List Nat} {F0:Foot} {W:World} {β0:Env} {N:Nat} {ys:List Av} {a ts:List Tok}
theorem ZR (ρ:List (Nat×Nat)) (h : ∀ β:Env,((rvL Y.f fs L fn.results.toList,getR L ρ to),((ρ.all (fun p=>Nat.ble 20 p.1)&&(ndB ((to.map (·.1)).map (rn ρ))&&(fr.all (fun k=>Nat.ble 20 k)&&ksB (ret.ks++to.flatMap (·.2.ks)) fr))),retOf ys),to.map fun p=>p.2.r fun k=>β (rn ρ k))=((some (ys,a,a),some ts),(true,ret.ren (rn ρ)),ts.map fun t=>t.r β):=by intro _;rfl):At ⟨W,F0,β0,N,[]⟩ fs L (SQ Tryz.prog [] (bodyPost Tryz.prog fn (Ret F0 W fr β0 ret to)) .ret):=M.z Y (.inl rfl) ρ h
theorem ZN (ρ:List (Nat×Nat)) (h : ∀ β:Env,((rvL Y.f fs L fn.results.toList,getR L ρ to),((ρ.all (fun p=>Nat.ble 20 p.1)&&(ndB ((to.map (·.1)).map (rn ρ))&&(fr.all (fun k=>Nat.ble 20 k)&&ksB (ret.ks++to.flatMap (·.2.ks)) fr))),retOf ys),to.map fun p=>p.2.r fun k=>β (rn ρ k))=((some (ys,a,a),some ts),(true,ret.ren (rn ρ)),ts.map fun t=>t.r β):=by intro _;rfl):At ⟨W,F0,β0,N,[]⟩ fs L (SQ Tryz.prog [] (bodyPost Tryz.prog fn (Ret F0 W fr β0 ret to)) .normal):=M.z Y (.inr rfl) ρ h
end
section
variable {n:Nat} {ops:Array Oper} {rest:List Oper} {fs:FL} {L:TL} {K:List Step→FL→TL→Prop} {d:Nat} {T ty:TypeId} {pos:String} {after:Array Edge} {j t:Nat} {want b:Bool} {x z:Operand} {y:SV}
theorem kR {az:Array Operand} {ats:Array TypeId} {f:FuncId} {args:List SV} {ret:SV} {tr:List (Nat×Tok)} {fr:List Nat} (hs:SCon Tryz.prog f args tr ret tr fr) (h0:(cfL.contains f,(opl fs az).map (·.2),az.toList.all (fun o=>(ev fs o).isSome),(getT L (tr.map (·.1)),(ndB (tr.map (·.1))&&(frB fr fs L&&Nat.blt d n))))=(true,args,true,(tr,true))) (h:RunK Tryz.prog n ops rest ((d,ret)::fs) L (fun ss fs' L'=>K (⟨[]++opds (fnl f fs az),some d,ret,tr,[],[],fr⟩::ss) fs' L')):RunK Tryz.prog n ops (⟨some d,.call ⟨.value (.func f),az,ats⟩,ty,pos,after,none⟩::rest) fs L K:=Sx.K.cR (cf f (e4 h0).1) hs g0 (e4 h0).2.1 (e4 h0).2.2.1 (e2 (e4 h0).2.2.2).1 (e2 (e4 h0).2.2.2).2 h
theorem k0 {az:Array Operand} {ats:Array TypeId} {f:FuncId} {args:List SV} {ret:SV} {ti to:List (Nat×Tok)} {fr:List Nat} (hs:SCon Tryz.prog f args ti ret to fr) (h0:(cfL.contains f,(opl fs az).map (·.2),az.toList.all (fun o=>(ev fs o).isSome),(getT L (ti.map (·.1)),(ndB (ti.map (·.1))&&(ndB (to.map (·.1))&&(ti.all (fun p=>(to.map (·.1)).contains p.1)&&(to.all (fun p=>(ti.map (·.1)).contains p.1 || (lkT L p.1).isNone)&&(frB fr fs L&&Nat.blt d n)))))))=(true,args,true,(ti,true))) (h:RunK Tryz.prog n ops rest ((d,ret)::fs) (to.map (fun p=>(p.1,some p.2))++L) (fun ss fs' L'=>K (⟨[]++opds (fnl f fs az),some d,ret,[],ti,to,fr⟩::ss) fs' L')):RunK Tryz.prog n ops (⟨some d,.call ⟨.value (.func f),az,ats⟩,ty,pos,after,none⟩::rest) fs L K:=Sx.K.c0 (cf f (e4 h0).1) hs g0 (e4 h0).2.1 (e4 h0).2.2.1 (e2 (e4 h0).2.2.2).1 (e2 (e4 h0).2.2.2).2 h
theorem kk {op:Op} (hb:b = !want) (h0:((ops[j]?).bind (·.dst),lk fs t,Nat.blt d n)=(some t,some (SV.b b),true)) (h:RunK Tryz.prog n ops rest ((d,SV.raw undef)::fs) L (fun ss fs' L'=>K (⟨[(t,SV.b b)],some d,SV.raw undef,[],[],[],[]⟩::ss) fs' L')):RunK Tryz.prog n ops (⟨some d,op,T,pos,after,some (j,want)⟩::rest) fs L K:=Sx.K.sk (e3 h0).1 (e3 h0).2.1 hb (e3 h0).2.2 h
end
end Go.Proofs.YtgjbibabegabnaaGreat
namespace Go.Proofs.YtgjbibabegabnaaGreat
open Go Go.Proofs.YtgjbibabegabnaaGreat.Sx
structure TItem where
  key:Int
  id:Int
structure TOp where
  time:Int
  insert:Bool
  item:TItem
structure TTook where
  found:Bool
  item:TItem
structure TMark where
  op:TOp
  here:Bool
  took:TTook
structure TTide where
  n:Int
  sum:Int
  low:Int
structure TSwell where
  count:TTide
  weight:TTide
  deletes:Int
  free:Int
  most:TItem
  gone:TTook
  least:TTook
structure TRef where
  index:Int
  gen:Int
structure TNode (E A:Type) where
  e:E
  left:TRef
  right:TRef
  size:Int
  sum:A
def eTNode_TMark_TSwell (x:TNode TMark TSwell):List Value:=[.int .i64 x.e.op.time,.bool x.e.op.insert,.int .i64 x.e.op.item.key,.int .i64 x.e.op.item.id,.bool x.e.here,.bool x.e.took.found,.int .i64 x.e.took.item.key,.int .i64 x.e.took.item.id,.int .i64 x.left.index,.int .i64 x.left.gen,.int .i64 x.right.index,.int .i64 x.right.gen,.int .i64 x.size,.int .i64 x.sum.count.n,.int .i64 x.sum.count.sum,.int .i64 x.sum.count.low,.int .i64 x.sum.weight.n,.int .i64 x.sum.weight.sum,.int .i64 x.sum.weight.low,.int .i64 x.sum.deletes,.int .i64 x.sum.free,.int .i64 x.sum.most.key,.int .i64 x.sum.most.id,.bool x.sum.gone.found,.int .i64 x.sum.gone.item.key,.int .i64 x.sum.gone.item.id,.bool x.sum.least.found,.int .i64 x.sum.least.item.key,.int .i64 x.sum.least.item.id]
theorem eTNode_TMark_TSwell_len : ∀ x,(eTNode_TMark_TSwell x).length=29:=fun _=>rfl
theorem eTNode_TMark_TSwell_one : ∀ x,(eTNode_TMark_TSwell x).all Value.oneCell'=true:=fun _=>rfl
abbrev zTItem:TItem:=⟨0,0⟩
abbrev zTOp:TOp:=⟨0,false,zTItem⟩
abbrev zTTook:TTook:=⟨false,zTItem⟩
abbrev zTMark:TMark:=⟨zTOp,false,zTTook⟩
abbrev zTTide:TTide:=⟨0,0,0⟩
abbrev zTSwell:TSwell:=⟨zTTide,zTTide,0,0,zTItem,zTTook,zTTook⟩
abbrev TSize:Type:=Int
abbrev zTSize:TSize:=0
structure TSlot where
  item:TItem
  eaten:Bool
  time:Int
def eTNode_TSlot_TSize (x:TNode TSlot TSize):List Value:=[.int .i64 x.e.item.key,.int .i64 x.e.item.id,.bool x.e.eaten,.int .i64 x.e.time,.int .i64 x.left.index,.int .i64 x.left.gen,.int .i64 x.right.index,.int .i64 x.right.gen,.int .i64 x.size,.int .i64 x.sum]
theorem eTNode_TSlot_TSize_len : ∀ x,(eTNode_TSlot_TSize x).length=10:=fun _=>rfl
theorem eTNode_TSlot_TSize_one : ∀ x,(eTNode_TSlot_TSize x).all Value.oneCell'=true:=fun _=>rfl
abbrev zTSlot:TSlot:=⟨zTItem,false,0⟩
structure TS (E A:Type) where
  p:Pool (TNode E A)
  r:TRef
structure TQueue where
  capacity:Int
  marks:TS TMark TSwell
  present:TS TSlot TSize
  gone:TS TSlot TSize
  times:TS TSlot TSize
  excess:Int
abbrev zTRef:TRef:=⟨0,0⟩
structure TChange where
  in_:List TItem
  out:List TItem
def eTItem (x:TItem):List Value:=[.int .i64 x.key,.int .i64 x.id]
theorem eTItem_len : ∀ x,(eTItem x).length=2:=fun _=>rfl
theorem eTItem_one : ∀ x,(eTItem x).all Value.oneCell'=true:=fun _=>rfl
def eTRef (x:TRef):List Value:=[.int .i64 x.index,.int .i64 x.gen]
def eTMark (x:TMark):List Value:=[.int .i64 x.op.time,.bool x.op.insert,.int .i64 x.op.item.key,.int .i64 x.op.item.id,.bool x.here,.bool x.took.found,.int .i64 x.took.item.key,.int .i64 x.took.item.id]
theorem eTMark_len : ∀ x,(eTMark x).length=8:=fun _=>rfl
theorem eTMark_one : ∀ x,(eTMark x).all Value.oneCell'=true:=fun _=>rfl
def eTSlot (x:TSlot):List Value:=[.int .i64 x.item.key,.int .i64 x.item.id,.bool x.eaten,.int .i64 x.time]
theorem eTSlot_len : ∀ x,(eTSlot x).length=4:=fun _=>rfl
theorem eTSlot_one : ∀ x,(eTSlot x).all Value.oneCell'=true:=fun _=>rfl
def eTTide (x:TTide):List Value:=[.int .i64 x.n,.int .i64 x.sum,.int .i64 x.low]
def eTSwell (x:TSwell):List Value:=[.int .i64 x.count.n,.int .i64 x.count.sum,.int .i64 x.count.low,.int .i64 x.weight.n,.int .i64 x.weight.sum,.int .i64 x.weight.low,.int .i64 x.deletes,.int .i64 x.free,.int .i64 x.most.key,.int .i64 x.most.id,.bool x.gone.found,.int .i64 x.gone.item.key,.int .i64 x.gone.item.id,.bool x.least.found,.int .i64 x.least.item.key,.int .i64 x.least.item.id]
def eTTook (x:TTook):List Value:=[.bool x.found,.int .i64 x.item.key,.int .i64 x.item.id]
def eTOp (x:TOp):List Value:=[.int .i64 x.time,.bool x.insert,.int .i64 x.item.key,.int .i64 x.item.id]
theorem eTOp_len : ∀ x,(eTOp x).length=4:=fun _=>rfl
theorem eTOp_one : ∀ x,(eTOp x).all Value.oneCell'=true:=fun _=>rfl
structure Ops (E A:Type) where
  cmp:Nat→E→E→Option Int
  sum:Nat→E→Option A
  plus:Nat→A→A→Option A
  zE:E
  zA:A
abbrev zNode {E A:Type} (O:Ops E A):TNode E A:=⟨O.zE,⟨0,0⟩,⟨0,0⟩,0,O.zA⟩
def Tree_New.f {E A:Type} (O:Ops E A) (k:Nat) (a0:Int):Option (TRef×Pool (TNode E A)):=some (zTRef,(⟨[],[],capOf a0,0,0⟩:Pool (TNode E A)))
def Tree_get.f {E A:Type} (O:Ops E A) (k:Nat) (p1:Pool (TNode E A)) (a1:TRef):Option (TNode E A):=bif (a1.gen == 0) then (some (zNode O)) else ((pGet (zNode O) p1 a1.index a1.gen).bind fun x1=>some x1.1)
def Tree_Len.f {E A:Type} (O:Ops E A) (k:Nat) (p1:Pool (TNode E A)) (rt0:TRef):Option (Int):=(Tree_get.f O k p1 rt0).bind fun x1=>some x1.size
def Tree_Find.l0 {E A:Type} (O:Ops E A) (k:Nat) (p1:Pool (TNode E A)) (a1:E):Nat→TRef→Option (Sum (E×Bool) (Unit))
  | 0, _ => none
  | n + 1, v1 => bif (v1.gen != 0) then ((Tree_get.f O k p1 v1).bind fun x2 => (O.cmp k a1 x2.e).bind fun x3 => bif (x3 == 0) then (some (Sum.inl (x2.e, true))) else (bif (decide (x3 < 0)) then (Tree_Find.l0 O k p1 a1 n x2.left) else (Tree_Find.l0 O k p1 a1 n x2.right))) else (some (Sum.inr ()))
def Tree_Find.f {E A:Type} (O:Ops E A) (k:Nat) (p1:Pool (TNode E A)) (rt0:TRef) (a1:E):Option (E×Bool):=(Tree_Find.l0 O k p1 a1 k rt0).bind (Sum.elim (fun r=>some r) (fun w1=>some (O.zE,false)))
def Tree_weight.f {E A:Type} (O:Ops E A) (k:Nat) (p1:Pool (TNode E A)) (a1:TRef):Option (Int):=(Tree_get.f O k p1 a1).bind fun x1=>some (w64 (x1.size+1))
def Tree_Rank.l0 {E A:Type} (O:Ops E A) (k:Nat) (p1:Pool (TNode E A)) (a1:E):Nat→(Int×TRef)→Option (Int)
  | 0, _ => none
  | n + 1, (v1, v2) => bif (v2.gen != 0) then ((Tree_get.f O k p1 v2).bind fun x2 => (O.cmp k a1 x2.e).bind fun x3 => bif (decide (x3 ≤ 0)) then (Tree_Rank.l0 O k p1 a1 n (v1, x2.left)) else ((Tree_weight.f O k p1 x2.left).bind fun x4 => Tree_Rank.l0 O k p1 a1 n ((w64 (v1 + x4)), x2.right))) else (some v1)
def Tree_Rank.f {E A:Type} (O:Ops E A) (k:Nat) (p1:Pool (TNode E A)) (rt0:TRef) (a1:E):Option (Int):=(Tree_Rank.l0 O k p1 a1 k (0,rt0)).bind fun x1=>some x1
def Tree_lastOf.r {E A:Type} (O:Ops E A) (k:Nat):Nat→Pool (TNode E A)→TRef→Int→A→(A→A→Option Bool)→Option (Int)
  | 0, _, _, _, _, _ => none
  | n + 1, p1, a1, a2, a3, fn4 => (Tree_get.f O k p1 a1).bind fun x1 => (bif (x1.size == 0) then (some (Sum.inl (-1))) else (bif (decide (a2 ≤ 0)) then (some (Sum.inl (-1))) else (bif (decide (a2 ≥ x1.size)) then ((fn4 a3 x1.sum).bind fun x3 => bif (!x3) then (some (Sum.inl (-1))) else (some (Sum.inr ()))) else (some (Sum.inr ()))))).bind (Sum.elim (fun r => some r) (fun w2 => (Tree_get.f O k p1 x1.left).bind fun x4 => (O.plus k a3 x4.sum).bind fun x5 => (O.sum k x1.e).bind fun x6 => (O.plus k x5 x6).bind fun x7 => (Tree_lastOf.r O k n p1 x1.right (w64 ((w64 (a2 - x4.size)) - 1)) x7 fn4).bind fun x8 => bif (decide (x8 ≥ 0)) then (some (w64 ((w64 (x8 + x4.size)) + 1))) else (bif (decide (a2 > x4.size)) then ((fn4 x5 x6).bind fun x9 => bif x9 then (some x4.size) else ((Tree_lastOf.r O k n p1 x1.left a2 a3 fn4).bind fun x10 => some x10)) else ((Tree_lastOf.r O k n p1 x1.left a2 a3 fn4).bind fun x11 => some x11))))
def Tree_lastOf.f {E A:Type} (O:Ops E A) (k:Nat) (p1:Pool (TNode E A)) (a1:TRef) (a2:Int) (a3:A) (fn4:A→A→Option Bool):Option (Int):=Tree_lastOf.r O k k p1 a1 a2 a3 fn4
def Tree_Last.f {E A:Type} (O:Ops E A) (k:Nat) (p1:Pool (TNode E A)) (rt0:TRef) (a1:Int) (fn2:A→A→Option Bool):Option (Int):=(Tree_Len.f O k p1 rt0).bind fun x1=>(Tree_lastOf.f O k p1 rt0 (gmin (gmax a1 0) x1) O.zA fn2).bind fun x2=>some x2
def Tree_lay.f {E A:Type} (O:Ops E A) (k:Nat) (p1:Pool (TNode E A)) (a1:TRef) (a2:TRef) (a3:TRef):Option (TRef×Pool (TNode E A)):=(Tree_get.f O k p1 a1).bind fun x1=>(Tree_get.f O k p1 a2).bind fun x2=>(Tree_get.f O k p1 a3).bind fun x3=>(O.sum k x1.e).bind fun x4=>(O.plus k x2.sum x4).bind fun x5=>(O.plus k x5 x3.sum).bind fun x6=>(pSet p1 a1.index a1.gen (TNode.mk x1.e a2 a3 (w64 ((w64 (x2.size+1))+x3.size)) x6)).bind fun x7=>some (a1,x7.2)
def Tree_turnRight.f {E A:Type} (O:Ops E A) (k:Nat) (p1:Pool (TNode E A)) (a1:TRef):Option (TRef×Pool (TNode E A)):=(Tree_get.f O k p1 a1).bind fun x1=>(Tree_get.f O k p1 x1.left).bind fun x2=>(Tree_lay.f O k p1 a1 x2.right x1.right).bind fun x3=>(Tree_lay.f O k x3.2 x1.left x2.left a1).bind fun x4=>some (x4.1,x4.2)
def Tree_turnLeft.f {E A:Type} (O:Ops E A) (k:Nat) (p1:Pool (TNode E A)) (a1:TRef):Option (TRef×Pool (TNode E A)):=(Tree_get.f O k p1 a1).bind fun x1=>(Tree_get.f O k p1 x1.right).bind fun x2=>(Tree_lay.f O k p1 a1 x1.left x2.left).bind fun x3=>(Tree_lay.f O k x3.2 x1.right a1 x2.right).bind fun x4=>some (x4.1,x4.2)
def Tree_balance.f {E A:Type} (O:Ops E A) (k:Nat) (p1:Pool (TNode E A)) (a1:TRef):Option (TRef×Pool (TNode E A)):=(Tree_get.f O k p1 a1).bind fun x1=>(Tree_weight.f O k p1 x1.left).bind fun x2=>(Tree_weight.f O k p1 x1.right).bind fun x3=>bif (decide (x3>(w64 (3*x2)))) then ((Tree_get.f O k p1 x1.right).bind fun x4=>(Tree_weight.f O k p1 x4.left).bind fun x5=>(Tree_weight.f O k p1 x4.right).bind fun x6=>bif (decide (x5≥(w64 (2*x6)))) then ((Tree_turnRight.f O k p1 x1.right).bind fun x7=>(Tree_lay.f O k x7.2 a1 x1.left x7.1).bind fun x8=>(Tree_turnLeft.f O k x8.2 a1).bind fun x9=>some (x9.1,x9.2)) else ((Tree_turnLeft.f O k p1 a1).bind fun x10=>some (x10.1,x10.2))) else (bif (decide (x2>(w64 (3*x3)))) then ((Tree_get.f O k p1 x1.left).bind fun x11=>(Tree_weight.f O k p1 x11.right).bind fun x12=>(Tree_weight.f O k p1 x11.left).bind fun x13=>bif (decide (x12≥(w64 (2*x13)))) then ((Tree_turnLeft.f O k p1 x1.left).bind fun x14=>(Tree_lay.f O k x14.2 a1 x14.1 x1.right).bind fun x15=>(Tree_turnRight.f O k x15.2 a1).bind fun x16=>some (x16.1,x16.2)) else ((Tree_turnRight.f O k p1 a1).bind fun x17=>some (x17.1,x17.2))) else (some (a1,p1)))
def Tree_link.r {E A:Type} (O:Ops E A) (k:Nat):Nat→Pool (TNode E A)→TRef→TRef→TRef→Option (TRef×Pool (TNode E A))
  | 0, _, _, _, _ => none
  | n + 1, p1, a1, a2, a3 => (Tree_weight.f O k p1 a1).bind fun x1 => (Tree_weight.f O k p1 a3).bind fun x2 => bif (decide (x2 > (w64 (3 * x1)))) then ((Tree_get.f O k p1 a3).bind fun x3 => (Tree_link.r O k n p1 a1 a2 x3.left).bind fun x4 => (Tree_lay.f O k x4.2 a3 x4.1 x3.right).bind fun x5 => (Tree_balance.f O k x5.2 x5.1).bind fun x6 => some (x6.1, x6.2)) else (bif (decide (x1 > (w64 (3 * x2)))) then ((Tree_get.f O k p1 a1).bind fun x7 => (Tree_link.r O k n p1 x7.right a2 a3).bind fun x8 => (Tree_lay.f O k x8.2 a1 x7.left x8.1).bind fun x9 => (Tree_balance.f O k x9.2 x9.1).bind fun x10 => some (x10.1, x10.2)) else ((Tree_lay.f O k p1 a2 a1 a3).bind fun x11 => some (x11.1, x11.2)))
def Tree_link.f {E A:Type} (O:Ops E A) (k:Nat) (p1:Pool (TNode E A)) (a1:TRef) (a2:TRef) (a3:TRef):Option (TRef×Pool (TNode E A)):=Tree_link.r O k k p1 a1 a2 a3
def Tree_put.r {E A:Type} (O:Ops E A) (k:Nat):Nat→Pool (TNode E A)→TRef→E→Option (TRef×Bool×Pool (TNode E A))
  | 0, _, _, _ => none
  | n + 1, p1, a1, a2 => bif (a1.gen == 0) then ((O.sum k a2).bind fun x1 => (pPut (zNode O) p1 (TNode.mk a2 zTRef zTRef 1 x1)).bind fun x2 => some ((TRef.mk x2.1.1.1 x2.1.1.2), x2.1.2, x2.2)) else ((Tree_get.f O k p1 a1).bind fun x3 => (O.cmp k a2 x3.e).bind fun x4 => bif (decide (x4 < 0)) then ((Tree_put.r O k n p1 x3.left a2).bind fun x5 => bif (!x5.2.1) then (some (a1, false, x5.2.2)) else ((Tree_link.f O k x5.2.2 x5.1 a1 x3.right).bind fun x6 => some (x6.1, true, x6.2))) else (bif (decide (x4 > 0)) then ((Tree_put.r O k n p1 x3.right a2).bind fun x7 => bif (!x7.2.1) then (some (a1, false, x7.2.2)) else ((Tree_link.f O k x7.2.2 x3.left a1 x7.1).bind fun x8 => some (x8.1, true, x8.2))) else ((pSet p1 a1.index a1.gen (TNode.mk a2 x3.left x3.right x3.size x3.sum)).bind fun x9 => (Tree_lay.f O k x9.2 a1 x3.left x3.right).bind fun x10 => some (x10.1, true, x10.2))))
def Tree_put.f {E A:Type} (O:Ops E A) (k:Nat) (p1:Pool (TNode E A)) (a1:TRef) (a2:E):Option (TRef×Bool×Pool (TNode E A)):=Tree_put.r O k k p1 a1 a2
def Tree_Put.f {E A:Type} (O:Ops E A) (k:Nat) (p1:Pool (TNode E A)) (rt0:TRef) (a1:E):Option (Bool×TRef×Pool (TNode E A)):=(Tree_put.f O k p1 rt0 a1).bind fun x1=>bif x1.2.1 then (some (x1.2.1,x1.1,x1.2.2)) else (some (x1.2.1,rt0,x1.2.2))
def Tree_between.r {E A:Type} (O:Ops E A) (k:Nat):Nat→Pool (TNode E A)→TRef→Int→Int→Option (A)
  | 0, _, _, _, _ => none
  | n + 1, p1, a1, a2, a3 => (Tree_get.f O k p1 a1).bind fun x1 => (bif (decide (a2 ≥ a3)) then (some (Sum.inl O.zA)) else (bif (decide (a2 ≥ x1.size)) then (some (Sum.inl O.zA)) else (bif (decide (a3 ≤ 0)) then (some (Sum.inl O.zA)) else (bif (x1.size == 0) then (some (Sum.inl O.zA)) else (some (Sum.inr ())))))).bind (Sum.elim (fun r => some r) (fun w2 => (bif (decide (a2 ≤ 0)) then (bif (decide (a3 ≥ x1.size)) then (some (Sum.inl x1.sum)) else (some (Sum.inr ()))) else (some (Sum.inr ()))).bind (Sum.elim (fun r => some r) (fun w3 => (Tree_get.f O k p1 x1.left).bind fun x4 => (Tree_between.r O k n p1 x1.left a2 a3).bind fun x5 => (bif (decide (a2 ≤ x4.size)) then (bif (decide (a3 > x4.size)) then ((O.sum k x1.e).bind fun x7 => (O.plus k x5 x7).bind fun x8 => some x8) else (some x5)) else (some x5)).bind fun x6 => (Tree_between.r O k n p1 x1.right (w64 ((w64 (a2 - x4.size)) - 1)) (w64 ((w64 (a3 - x4.size)) - 1))).bind fun x9 => (O.plus k x6 x9).bind fun x10 => some x10))))
def Tree_between.f {E A:Type} (O:Ops E A) (k:Nat) (p1:Pool (TNode E A)) (a1:TRef) (a2:Int) (a3:Int):Option (A):=Tree_between.r O k k p1 a1 a2 a3
def Tree_Between.f {E A:Type} (O:Ops E A) (k:Nat) (p1:Pool (TNode E A)) (rt0:TRef) (a1:Int) (a2:Int):Option (A):=(Tree_Len.f O k p1 rt0).bind fun x1=>(Tree_between.f O k p1 rt0 (gmin (gmax a1 0) x1) (gmin (gmax a2 0) x1)).bind fun x2=>some x2
def Tree_first.r {E A:Type} (O:Ops E A) (k:Nat):Nat→Pool (TNode E A)→TRef→Int→A→(A→A→Option Bool)→Option (Int×A)
  | 0, _, _, _, _, _ => none
  | n + 1, p1, a1, a2, a3, fn4 => (Tree_get.f O k p1 a1).bind fun x1 => (bif (x1.size == 0) then ((O.plus k a3 x1.sum).bind fun x3 => some (Sum.inl ((-1), x3))) else (bif (decide (a2 ≥ x1.size)) then ((O.plus k a3 x1.sum).bind fun x4 => some (Sum.inl ((-1), x4))) else (bif (decide (a2 ≤ 0)) then ((fn4 a3 x1.sum).bind fun x5 => bif (!x5) then ((O.plus k a3 x1.sum).bind fun x6 => some (Sum.inl ((-1), x6))) else (some (Sum.inr ()))) else (some (Sum.inr ()))))).bind (Sum.elim (fun r => some r) (fun w2 => (Tree_get.f O k p1 x1.left).bind fun x7 => (Tree_first.r O k n p1 x1.left a2 a3 fn4).bind fun x8 => bif (decide (x8.1 ≥ 0)) then (some (x8.1, x8.2)) else ((O.sum k x1.e).bind fun x9 => (bif (decide (a2 ≤ x7.size)) then ((fn4 x8.2 x9).bind fun x11 => bif x11 then (some (Sum.inl (x7.size, x8.2))) else (some (Sum.inr ()))) else (some (Sum.inr ()))).bind (Sum.elim (fun r => some r) (fun w10 => (O.plus k x8.2 x9).bind fun x12 => (Tree_first.r O k n p1 x1.right (w64 ((w64 (a2 - x7.size)) - 1)) x12 fn4).bind fun x13 => bif (decide (x13.1 ≥ 0)) then (some ((w64 (x13.1 + (w64 (x7.size + 1)))), x13.2)) else (some (x13.1, x13.2)))))))
def Tree_first.f {E A:Type} (O:Ops E A) (k:Nat) (p1:Pool (TNode E A)) (a1:TRef) (a2:Int) (a3:A) (fn4:A→A→Option Bool):Option (Int×A):=Tree_first.r O k k p1 a1 a2 a3 fn4
def Tree_First.f {E A:Type} (O:Ops E A) (k:Nat) (p1:Pool (TNode E A)) (rt0:TRef) (a1:Int) (fn2:A→A→Option Bool):Option (Int):=(Tree_Len.f O k p1 rt0).bind fun x1=>(Tree_first.f O k p1 rt0 (gmin (gmax a1 0) x1) O.zA fn2).bind fun x2=>some x2.1
def Tree_last.r {E A:Type} (O:Ops E A) (k:Nat):Nat→Pool (TNode E A)→TRef→Option (TRef×TRef×Pool (TNode E A))
  | 0, _, _ => none
  | n + 1, p1, a1 => (Tree_get.f O k p1 a1).bind fun x1 => bif (x1.right.gen == 0) then (some (x1.left, a1, p1)) else ((Tree_last.r O k n p1 x1.right).bind fun x2 => (Tree_link.f O k x2.2.2 x1.left a1 x2.1).bind fun x3 => some (x3.1, x2.2.1, x3.2))
def Tree_last.f {E A:Type} (O:Ops E A) (k:Nat) (p1:Pool (TNode E A)) (a1:TRef):Option (TRef×TRef×Pool (TNode E A)):=Tree_last.r O k k p1 a1
def Tree_merge.f {E A:Type} (O:Ops E A) (k:Nat) (p1:Pool (TNode E A)) (a1:TRef) (a2:TRef):Option (TRef×Pool (TNode E A)):=bif (a1.gen == 0) then (some (a2,p1)) else (bif (a2.gen == 0) then (some (a1,p1)) else ((Tree_last.f O k p1 a1).bind fun x1=>(Tree_link.f O k x1.2.2 x1.1 x1.2.1 a2).bind fun x2=>some (x2.1,x2.2)))
def Tree_drop.r {E A:Type} (O:Ops E A) (k:Nat):Nat→Pool (TNode E A)→TRef→E→Option (TRef×E×Bool×Pool (TNode E A))
  | 0, _, _, _ => none
  | n + 1, p1, a1, a2 => bif (a1.gen == 0) then (some (a1, O.zE, false, p1)) else ((Tree_get.f O k p1 a1).bind fun x1 => (O.cmp k a2 x1.e).bind fun x2 => bif (decide (x2 < 0)) then ((Tree_drop.r O k n p1 x1.left a2).bind fun x3 => bif (!x3.2.2.1) then (some (a1, x3.2.1, false, x3.2.2.2)) else ((Tree_link.f O k x3.2.2.2 x3.1 a1 x1.right).bind fun x4 => some (x4.1, x3.2.1, true, x4.2))) else (bif (decide (x2 > 0)) then ((Tree_drop.r O k n p1 x1.right a2).bind fun x5 => bif (!x5.2.2.1) then (some (a1, x5.2.1, false, x5.2.2.2)) else ((Tree_link.f O k x5.2.2.2 x1.left a1 x5.1).bind fun x6 => some (x6.1, x5.2.1, true, x6.2))) else ((pDrop (zNode O) p1 a1.index a1.gen).bind fun x7 => (Tree_merge.f O k x7.2 x1.left x1.right).bind fun x8 => some (x8.1, x1.e, true, x8.2))))
def Tree_drop.f {E A:Type} (O:Ops E A) (k:Nat) (p1:Pool (TNode E A)) (a1:TRef) (a2:E):Option (TRef×E×Bool×Pool (TNode E A)):=Tree_drop.r O k k p1 a1 a2
def Tree_Drop.f {E A:Type} (O:Ops E A) (k:Nat) (p1:Pool (TNode E A)) (rt0:TRef) (a1:E):Option (E×Bool×TRef×Pool (TNode E A)):=(Tree_drop.f O k p1 rt0 a1).bind fun x1=>some (x1.2.1,x1.2.2.1,x1.1,x1.2.2.2)
def Tree_all.r {E A:Type} (O:Ops E A) (k:Nat):Nat→Pool (TNode E A)→TRef→List E→Option (List E)
  | 0, _, _, _ => none
  | n + 1, p1, a1, l2 => bif (a1.gen == 0) then (some l2) else ((Tree_get.f O k p1 a1).bind fun x1 => (Tree_all.r O k n p1 x1.left l2).bind fun x2 => bif decide (x2.length + ([x1.e] : List E).length < 4294967296) then ((Tree_all.r O k n p1 x1.right (x2 ++ ([x1.e] : List E))).bind fun x3 => some x3) else none)
def Tree_all.f {E A:Type} (O:Ops E A) (k:Nat) (p1:Pool (TNode E A)) (a1:TRef) (l2:List E):Option (List E):=Tree_all.r O k k p1 a1 l2
def Tree_All.f {E A:Type} (O:Ops E A) (k:Nat) (p1:Pool (TNode E A)) (rt0:TRef):Option (List E):=(Tree_all.f O k p1 rt0 ([]:List E)).bind fun x1=>some x1
def cmp_isNaN.f (k:Nat) (a0:Int):Option (Bool):=some (a0 != a0)
def cmp_Compare.f (k:Nat) (a0:Int) (a1:Int):Option (Int):=(cmp_isNaN.f k a0).bind fun x1=>(cmp_isNaN.f k a1).bind fun x2=>bif x1 then (bif x2 then (some 0) else (some (-1))) else (bif x2 then (some 1) else (bif (decide (a0<a1)) then (some (-1)) else (bif (decide (a0>a1)) then (some 1) else (some 0))))
def wave_Mark_Compare.f (k:Nat) (a0:TMark) (a1:TMark):Option (Int):=(cmp_Compare.f k a0.op.time a1.op.time).bind fun x1=>some x1
def cmp_Or.l0 (k:Nat) (l0:List Int):Nat→Int→Option (Sum (Int) (Unit))
  | 0, _ => none
  | n + 1, v1 => bif (decide (v1 < (l0.length : Int))) then ((atL l0 v1).bind fun x2 => bif (x2 != 0) then (some (Sum.inl x2)) else (cmp_Or.l0 k l0 n (w64 (v1 + 1)))) else (some (Sum.inr ()))
def cmp_Or.f (k:Nat) (l0:List Int):Option (Int):=(cmp_Or.l0 k l0 k 0).bind (Sum.elim (fun r=>some r) (fun w1=>some 0))
def item_Compare.f (k:Nat) (a0:TItem) (a1:TItem):Option (Int):=(cmp_Compare.f k a0.key a1.key).bind fun x1=>(cmp_Compare.f k a0.id a1.id).bind fun x2=>(cmp_Or.f k ([x1,x2]:List Int)).bind fun x3=>some x3
def shelf_Slot_Compare.f (k:Nat) (a0:TSlot) (a1:TSlot):Option (Int):=(item_Compare.f k a0.item a1.item).bind fun x1=>some x1
def tide_Tide_Plus.f (k:Nat) (a0:TTide) (a1:TTide):Option (TTide):=bif (a0.n == 0) then (some a1) else (bif (a1.n == 0) then (some a0) else (some (TTide.mk (w64 (a0.n+a1.n)) (w64 (a0.sum+a1.sum)) (gmin a0.low (w64 (a0.sum+a1.low))))))
def wave_Swell_taken.f (k:Nat) (a0:TSwell):Option (TTook):=bif (a0.deletes == a0.free) then (some zTTook) else (some (TTook.mk true a0.most))
def wave_better.f (k:Nat) (a0:Int) (a1:TTook) (a2:TTook):Option (TTook):=bif (!a1.found) then (some a2) else (bif a2.found then ((item_Compare.f k a2.item a1.item).bind fun x1=>bif (decide ((w64 (a0*x1))<0)) then (some a2) else (some a1)) else (some a1))
def wave_Swell_Plus.f (k:Nat) (a0:TSwell) (a1:TSwell):Option (TSwell):=(tide_Tide_Plus.f k a0.count a1.count).bind fun x1=>(tide_Tide_Plus.f k a0.weight a1.weight).bind fun x2=>(wave_Swell_taken.f k a0).bind fun x3=>(wave_Swell_taken.f k a1).bind fun x4=>(wave_better.f k (-1) x3 x4).bind fun x5=>(wave_better.f k (-1) a0.gone a1.gone).bind fun x6=>(wave_better.f k 1 a0.least a1.least).bind fun x7=>some (TSwell.mk x1 x2 (w64 (a0.deletes+a1.deletes)) (w64 (a0.free+a1.free)) x5.item x6 x7)
def tide_Of.l0 (k:Nat) (l0:List Int):Nat→(TTide×Int)→Option (TTide)
  | 0, _ => none
  | n + 1, (v1, v2) => bif (decide (v2 < (l0.length : Int))) then ((atL l0 v2).bind fun x2 => (tide_Tide_Plus.f k v1 (TTide.mk 1 x2 x2)).bind fun x3 => tide_Of.l0 k l0 n (x3, (w64 (v2 + 1)))) else (some v1)
def tide_Of.f (k:Nat) (l0:List Int):Option (TTide):=(tide_Of.l0 k l0 k (zTTide,0)).bind fun x1=>some x1
def wave_Mark_Sum.f (k:Nat) (a0:TMark):Option (TSwell):=((bif a0.op.insert then (some a0.here) else (some false)).bind fun x2=>bif x2 then ((tide_Of.f k ([1]:List Int)).bind fun x3=>(tide_Of.f k ([0]:List Int)).bind fun x4=>some (Sum.inl (TSwell.mk x3 x4 0 0 zTItem zTTook (TTook.mk true a0.op.item)))) else (bif a0.op.insert then ((tide_Of.f k ([1]:List Int)).bind fun x5=>(tide_Of.f k ([1]:List Int)).bind fun x6=>some (Sum.inl (TSwell.mk x5 x6 0 0 zTItem (TTook.mk true a0.op.item) zTTook))) else (some (Sum.inr ())))).bind (Sum.elim (fun r=>some r) (fun w1=>(tide_Of.f k ([(-1)]:List Int)).bind fun x7=>(tide_Of.f k ([(-1)]:List Int)).bind fun x8=>bif a0.took.found then (some (TSwell.mk x7 x8 1 0 a0.took.item zTTook zTTook)) else (some (TSwell.mk x7 x8 1 1 zTItem zTTook zTTook))))
def shelf_Slot_Sum.f (k:Nat) (a0:TSlot):Option (TSize):=some 1
def shelf_Size_Plus.f (k:Nat) (a0:TSize) (a1:TSize):Option (TSize):=some (w64 (a0+a1))
abbrev opsM:Ops TMark TSwell:=⟨wave_Mark_Compare.f,wave_Mark_Sum.f,wave_Swell_Plus.f,zTMark,zTSwell⟩
abbrev zNodeM:TNode TMark TSwell:=zNode opsM
def wave_New.f (k:Nat) (a0:Int):Option (TRef×Pool (TNode TMark TSwell)):=(Tree_New.f opsM k a0).bind fun x1=>some (x1.1,x1.2)
abbrev opsS:Ops TSlot TSize:=⟨shelf_Slot_Compare.f,shelf_Slot_Sum.f,shelf_Size_Plus.f,zTSlot,zTSize⟩
abbrev zNodeS:TNode TSlot TSize:=zNode opsS
def shelf_New.f (k:Nat) (a0:Int):Option (TRef×Pool (TNode TSlot TSize)):=(Tree_New.f opsS k a0).bind fun x1=>some (x1.1,x1.2)
def partial_New.f (k:Nat) (a0:Int):Option (TQueue):=(wave_New.f k (gmin (gmax a0 0) 65536)).bind fun x1=>(shelf_New.f k (gmin (gmax a0 0) 65536)).bind fun x2=>(shelf_New.f k (gmin (gmax a0 0) 65536)).bind fun x3=>(shelf_New.f k (gmin (gmax a0 0) 65536)).bind fun x4=>some (TQueue.mk (gmin (gmax a0 0) 65536) (TS.mk x1.2 x1.1) (TS.mk x2.2 x2.1) (TS.mk x3.2 x3.1) (TS.mk x4.2 x4.1) 0)
def wave_Key.f (k:Nat) (a0:Int):Option (TMark):=some (TMark.mk (TOp.mk a0 false zTItem) false zTTook)
def partial_Queue_may.f (k:Nat) (q0:TQueue) (a1:Int):Option (Int):=(Tree_Len.f opsM k q0.marks.p q0.marks.r).bind fun x1=>bif (x1 == q0.capacity) then (some 10) else ((wave_Key.f k a1).bind fun x2=>(Tree_Find.f opsM k q0.marks.p q0.marks.r x2).bind fun x3=>bif x3.2 then (some 11) else (some 0))
def shelf_Of.f (k:Nat) (a0:TItem):Option (TSlot):=some (TSlot.mk a0 false 0)
def bridge_clamp.f (k:Nat) (p1:Pool (TNode TMark TSwell)) (rt0:TRef) (a1:Int):Option (Int):=(Tree_Len.f opsM k p1 rt0).bind fun x1=>some (gmin (gmax a1 0) x1)
def bridge_low.f (k:Nat) (a0:Int):Option (Int):=some a0
def bridge_low_1.f (k:Nat) (a0:TSwell) (a1:TSwell) (c0:Int):Option (Bool):=bif (decide (a1.weight.n>0)) then (some (decide ((w64 ((w64 (c0+a0.weight.sum))+a1.weight.low))≤0))) else (some false)
def bridge_Prior.f (k:Nat) (p1:Pool (TNode TMark TSwell)) (rt0:TRef) (a1:Int) (a2:Int):Option (Int):=(bridge_clamp.f k p1 rt0 a1).bind fun x1=>(bridge_low.f k a2).bind fun x2=>(Tree_Last.f opsM k p1 rt0 x1 (fun z0 z1=>bridge_low_1.f k z0 z1 x2)).bind fun x3=>bif (decide (x3≥0)) then (some (w64 (x3+1))) else (bif (decide (a2≤0)) then (some 0) else (some (-1)))
def bridge_Best.f (k:Nat) (p1:Pool (TNode TMark TSwell)) (rt0:TRef) (a1:Int):Option (TTook):=(bridge_clamp.f k p1 rt0 a1).bind fun x1=>(Tree_Len.f opsM k p1 rt0).bind fun x2=>(Tree_Between.f opsM k p1 rt0 x1 x2).bind fun x3=>some x3.gone
def partial_Queue_turn.f (k:Nat) (q0:TQueue) (a1:TItem) (a2:Bool):Option (TQueue):=(shelf_Of.f k a1).bind fun x1=>(Tree_Find.f opsS k q0.times.p q0.times.r x1).bind fun x2=>(wave_Key.f k x2.1.time).bind fun x3=>(Tree_Find.f opsM k q0.marks.p q0.marks.r x3).bind fun x4=>(Tree_Put.f opsM k q0.marks.p q0.marks.r (TMark.mk x4.1.op a2 x4.1.took)).bind fun x5=>bif a2 then ((shelf_Of.f k a1).bind fun x6=>(Tree_Drop.f opsS k q0.gone.p q0.gone.r x6).bind fun x7=>(shelf_Of.f k a1).bind fun x8=>(Tree_Put.f opsS k q0.present.p q0.present.r x8).bind fun x9=>some (TQueue.mk q0.capacity (TS.mk x5.2.2 x5.2.1) (TS.mk x9.2.2 x9.2.1) (TS.mk x7.2.2.2 x7.2.2.1) q0.times q0.excess)) else ((shelf_Of.f k a1).bind fun x10=>(Tree_Drop.f opsS k q0.present.p q0.present.r x10).bind fun x11=>(shelf_Of.f k a1).bind fun x12=>(Tree_Put.f opsS k q0.gone.p q0.gone.r x12).bind fun x13=>some (TQueue.mk q0.capacity (TS.mk x5.2.2 x5.2.1) (TS.mk x11.2.2.2 x11.2.2.1) (TS.mk x13.2.2 x13.2.1) q0.times q0.excess))
def partial_Queue_Insert.f (k:Nat) (q0:TQueue) (a1:Int) (a2:TItem):Option (TChange×Int×TQueue):=(partial_Queue_may.f k q0 a1).bind fun x1=>bif (x1 != 0) then (some ((TChange.mk ([]:List TItem) ([]:List TItem)),x1,q0)) else ((shelf_Of.f k a2).bind fun x2=>(Tree_Find.f opsS k q0.times.p q0.times.r x2).bind fun x3=>bif x3.2 then (some ((TChange.mk ([]:List TItem) ([]:List TItem)),2,q0)) else ((wave_Key.f k a1).bind fun x4=>(Tree_Rank.f opsM k q0.marks.p q0.marks.r x4).bind fun x5=>(bridge_Prior.f k q0.marks.p q0.marks.r x5 q0.excess).bind fun x6=>(Tree_Put.f opsS k q0.times.p q0.times.r (TSlot.mk a2 true a1)).bind fun x7=>(Tree_Put.f opsM k q0.marks.p q0.marks.r (TMark.mk (TOp.mk a1 true a2) false zTTook)).bind fun x8=>(shelf_Of.f k a2).bind fun x9=>(Tree_Put.f opsS k q0.gone.p q0.gone.r x9).bind fun x10=>bif (decide (x6<0)) then (some ((TChange.mk ([]:List TItem) ([]:List TItem)),0,(TQueue.mk q0.capacity (TS.mk x8.2.2 x8.2.1) q0.present (TS.mk x10.2.2 x10.2.1) (TS.mk x7.2.2 x7.2.1) (w64 (q0.excess - 1))))) else ((bridge_Best.f k x8.2.2 x8.2.1 x6).bind fun x11=>(partial_Queue_turn.f k (TQueue.mk q0.capacity (TS.mk x8.2.2 x8.2.1) q0.present (TS.mk x10.2.2 x10.2.1) (TS.mk x7.2.2 x7.2.1) q0.excess) x11.item true).bind fun x12=>some ((TChange.mk ([x11.item]:List TItem) ([]:List TItem)),0,x12))))
def bridge_Height.f (k:Nat) (p1:Pool (TNode TMark TSwell)) (rt0:TRef) (a1:Int) (a2:Int):Option (Int):=(Tree_Between.f opsM k p1 rt0 0 a1).bind fun x1=>some (w64 (a2+x1.weight.sum))
def bridge_Next.f (k:Nat) (p1:Pool (TNode TMark TSwell)) (rt0:TRef) (a1:Int) (a2:Int):Option (Int):=(bridge_clamp.f k p1 rt0 a1).bind fun x1=>(bridge_Height.f k p1 rt0 x1 a2).bind fun x2=>bif (decide (x2≤0)) then (some x1) else ((bridge_low.f k a2).bind fun x3=>(Tree_First.f opsM k p1 rt0 x1 (fun z0 z1=>bridge_low_1.f k z0 z1 x3)).bind fun x4=>bif (decide (x4≥0)) then (some (w64 (x4+1))) else (some (-1)))
def bridge_Least.f (k:Nat) (p1:Pool (TNode TMark TSwell)) (rt0:TRef) (a1:Int):Option (TTook):=(bridge_clamp.f k p1 rt0 a1).bind fun x1=>(Tree_Between.f opsM k p1 rt0 0 x1).bind fun x2=>some x2.least
def partial_Queue_leave.f (k:Nat) (q0:TQueue) (a1:Int):Option (TChange×TQueue):=(bridge_Next.f k q0.marks.p q0.marks.r a1 q0.excess).bind fun x1=>(bridge_Least.f k q0.marks.p q0.marks.r x1).bind fun x2=>bif (!x2.found) then (some ((TChange.mk ([]:List TItem) ([]:List TItem)),(TQueue.mk q0.capacity q0.marks q0.present q0.gone q0.times (w64 (q0.excess+1))))) else ((partial_Queue_turn.f k q0 x2.item false).bind fun x3=>some ((TChange.mk ([]:List TItem) ([x2.item]:List TItem)),x3))
def partial_Queue_Delete.f (k:Nat) (q0:TQueue) (a1:Int):Option (TChange×Int×TQueue):=(partial_Queue_may.f k q0 a1).bind fun x1=>bif (x1 != 0) then (some ((TChange.mk ([]:List TItem) ([]:List TItem)),x1,q0)) else ((wave_Key.f k a1).bind fun x2=>(Tree_Rank.f opsM k q0.marks.p q0.marks.r x2).bind fun x3=>(partial_Queue_leave.f k q0 x3).bind fun x4=>(wave_Key.f k a1).bind fun x5=>(Tree_Put.f opsM k x4.2.marks.p x4.2.marks.r x5).bind fun x6=>some (x4.1,0,(TQueue.mk x4.2.capacity (TS.mk x6.2.2 x6.2.1) x4.2.present x4.2.gone x4.2.times x4.2.excess)))
def partial_Queue_enter.f (k:Nat) (q0:TQueue) (a1:Int):Option (TChange×TQueue):=(bridge_Prior.f k q0.marks.p q0.marks.r a1 q0.excess).bind fun x1=>bif (decide (x1<0)) then (some ((TChange.mk ([]:List TItem) ([]:List TItem)),(TQueue.mk q0.capacity q0.marks q0.present q0.gone q0.times (w64 (q0.excess - 1))))) else ((bridge_Best.f k q0.marks.p q0.marks.r x1).bind fun x2=>bif (!x2.found) then (some ((TChange.mk ([]:List TItem) ([]:List TItem)),q0)) else ((partial_Queue_turn.f k q0 x2.item true).bind fun x3=>some ((TChange.mk ([x2.item]:List TItem) ([]:List TItem)),x3)))
def partial_Queue_Revoke.f (k:Nat) (q0:TQueue) (a1:Int):Option (TChange×Int×TQueue):=(wave_Key.f k a1).bind fun x1=>(Tree_Find.f opsM k q0.marks.p q0.marks.r x1).bind fun x2=>bif (!x2.2) then (some ((TChange.mk ([]:List TItem) ([]:List TItem)),14,q0)) else ((wave_Key.f k a1).bind fun x3=>(Tree_Rank.f opsM k q0.marks.p q0.marks.r x3).bind fun x4=>bif (!x2.1.op.insert) then ((partial_Queue_enter.f k q0 x4).bind fun x5=>(wave_Key.f k a1).bind fun x6=>(Tree_Drop.f opsM k x5.2.marks.p x5.2.marks.r x6).bind fun x7=>some (x5.1,0,(TQueue.mk x5.2.capacity (TS.mk x7.2.2.2 x7.2.2.1) x5.2.present x5.2.gone x5.2.times x5.2.excess))) else ((bif (!x2.1.here) then ((partial_Queue_leave.f k q0 (w64 (x4+1))).bind fun x9=>some (x9.2,x9.1.in_,x9.1.out)) else (some (q0,([]:List TItem),([x2.1.op.item]:List TItem)))).bind fun x8=>(wave_Key.f k a1).bind fun x10=>(Tree_Drop.f opsM k x8.1.marks.p x8.1.marks.r x10).bind fun x11=>(shelf_Of.f k x2.1.op.item).bind fun x12=>(Tree_Drop.f opsS k x8.1.present.p x8.1.present.r x12).bind fun x13=>(shelf_Of.f k x2.1.op.item).bind fun x14=>(Tree_Drop.f opsS k x8.1.gone.p x8.1.gone.r x14).bind fun x15=>(shelf_Of.f k x2.1.op.item).bind fun x16=>(Tree_Drop.f opsS k x8.1.times.p x8.1.times.r x16).bind fun x17=>some ((TChange.mk x8.2.1 x8.2.2),0,(TQueue.mk x8.1.capacity (TS.mk x11.2.2.2 x11.2.2.1) (TS.mk x13.2.2.2 x13.2.2.1) (TS.mk x15.2.2.2 x15.2.2.1) (TS.mk x17.2.2.2 x17.2.2.1) x8.1.excess))))
def partial_Queue_Ops.l0 (k:Nat) (x2:List TMark):Nat→(List TOp×Int)→Option (List TOp)
  | 0, _ => none
  | n + 1, (v1, v2) => bif (decide (v2 < (x2.length : Int))) then ((atL x2 v2).bind fun x3 => bif decide (v1.length + ([x3.op] : List TOp).length < 4294967296) then (partial_Queue_Ops.l0 k x2 n ((v1 ++ ([x3.op] : List TOp)), (w64 (v2 + 1)))) else none) else (some v1)
def partial_Queue_Ops.f (k:Nat) (q0:TQueue):Option (List TOp):=((Tree_All.f opsM k q0.marks.p q0.marks.r).bind fun x2=>partial_Queue_Ops.l0 k x2 k (([]:List TOp),0)).bind fun x1=>some x1
def partial_Queue_Len.f (k:Nat) (q0:TQueue):Option (Int):=(Tree_Len.f opsM k q0.marks.p q0.marks.r).bind fun x1=>some x1
def partial_Queue_all.f (k:Nat) (q0:TQueue):Option (TSwell):=(Tree_Len.f opsM k q0.marks.p q0.marks.r).bind fun x1=>(Tree_Between.f opsM k q0.marks.p q0.marks.r 0 x1).bind fun x2=>some x2
def partial_Queue_Deletes.f (k:Nat) (q0:TQueue):Option (Int):=(partial_Queue_all.f k q0).bind fun x1=>some x1.deletes
def partial_Queue_Present.f (k:Nat) (q0:TQueue):Option (Unit):=some ()
def partial_Queue_Gone.f (k:Nat) (q0:TQueue):Option (Unit):=some ()
def R02_Ahead.f (k:Nat) (a0:TItem) (a1:TItem):Option (Bool):=bif (decide (a0.key<a1.key)) then (some true) else (bif (a0.key == a1.key) then (some (decide (a0.id<a1.id))) else (some false))
def R02_Sorted.l1 (k:Nat) (l0:List TItem) (v1:List TItem) (v2:Int):Nat→Int→Option (Int)
  | 0, _ => none
  | n + 1, v101 => bif (decide (v101 > 0)) then ((atL l0 v2).bind fun x4 => (atL v1 (w64 (v101 - 1))).bind fun x5 => (R02_Ahead.f k x4 x5).bind fun x6 => bif x6 then (R02_Sorted.l1 k l0 v1 v2 n (w64 (v101 - 1))) else (some v101)) else (some v101)
def R02_Sorted.l0 (k:Nat) (l0:List TItem):Nat→(List TItem×Int)→Option (List TItem)
  | 0, _ => none
  | n + 1, (v1, v2) => bif (decide (v2 < (l0.length : Int))) then (((R02_Sorted.l1 k l0 v1 v2 k (v1.length : Int)).bind fun x3 => bif decide (0 ≤ x3 ∧ x3 ≤ (v1.length : Int)) then (bif decide (([] : List TItem).length + ((v1.drop 0).take (((x3).toNat) - 0)).length < 4294967296) then ((atL l0 v2).bind fun x7 => bif decide ((([] : List TItem) ++ ((v1.drop 0).take (((x3).toNat) - 0))).length + ([x7] : List TItem).length < 4294967296) then (bif decide (0 ≤ x3 ∧ x3 ≤ (v1.length : Int)) then (bif decide (((([] : List TItem) ++ ((v1.drop 0).take (((x3).toNat) - 0))) ++ ([x7] : List TItem)).length + ((v1.drop ((x3).toNat)).take (v1.length - ((x3).toNat))).length < 4294967296) then (some (((([] : List TItem) ++ ((v1.drop 0).take (((x3).toNat) - 0))) ++ ([x7] : List TItem)) ++ ((v1.drop ((x3).toNat)).take (v1.length - ((x3).toNat))))) else none) else none) else none) else none) else none).bind fun x2 => R02_Sorted.l0 k l0 n (x2, (w64 (v2 + 1)))) else (some v1)
def R02_Sorted.f (k:Nat) (l0:List TItem):Option (List TItem):=(R02_Sorted.l0 k l0 k (([]:List TItem),0)).bind fun x1=>some x1
def R12_Run.l0 (k:Nat) (l0:List TOp):Nat→(List TItem×List TItem×List TTook×Int×Int)→Option (List TItem×List TItem×List TTook×Int)
  | 0, _ => none
  | n + 1, (v1, v2, v3, v4, v5) => bif (decide (v5 < (l0.length : Int))) then ((atL l0 v5).bind fun x2 => bif x2.insert then (bif decide (([] : List TItem).length + v1.length < 4294967296) then (bif decide ((([] : List TItem) ++ v1).length + ([x2.item] : List TItem).length < 4294967296) then ((R02_Sorted.f k ((([] : List TItem) ++ v1) ++ ([x2.item] : List TItem))).bind fun x3 => bif decide (v3.length + ([zTTook] : List TTook).length < 4294967296) then (R12_Run.l0 k l0 n (x3, v2, (v3 ++ ([zTTook] : List TTook)), v4, (w64 (v5 + 1)))) else none) else none) else none) else (bif (decide ((v1.length : Int) > 0)) then ((atL v1 0).bind fun x4 => bif decide (v2.length + ([x4] : List TItem).length < 4294967296) then (bif decide (0 ≤ (1 : Int) ∧ (1 : Int) ≤ (v1.length : Int)) then (bif decide (([] : List TItem).length + ((v1.drop ((1 : Int).toNat)).take (v1.length - ((1 : Int).toNat))).length < 4294967296) then (bif decide (v3.length + ([(TTook.mk true x4)] : List TTook).length < 4294967296) then (R12_Run.l0 k l0 n ((([] : List TItem) ++ ((v1.drop ((1 : Int).toNat)).take (v1.length - ((1 : Int).toNat)))), (v2 ++ ([x4] : List TItem)), (v3 ++ ([(TTook.mk true x4)] : List TTook)), v4, (w64 (v5 + 1)))) else none) else none) else none) else none) else (bif decide (v3.length + ([zTTook] : List TTook).length < 4294967296) then (R12_Run.l0 k l0 n (v1, v2, (v3 ++ ([zTTook] : List TTook)), (w64 (v4 + 1)), (w64 (v5 + 1)))) else none))) else (some (v1, v2, v3, v4))
def R12_Run.f (k:Nat) (l0:List TOp):Option (List TItem×List TItem×Int×List TTook):=(R12_Run.l0 k l0 k (([]:List TItem),([]:List TItem),([]:List TTook),0,0)).bind fun x1=>(R02_Sorted.f k x1.2.1).bind fun x5=>some (x1.1,x5,x1.2.2.2,x1.2.2.1)
end Go.Proofs.YtgjbibabegabnaaGreat
namespace Go.Proofs.YtgjbibabegabnaaGreat
open Go Go.Proofs.YtgjbibabegabnaaGreat.Sx
theorem me82_201 (v : Value) (w : World) : (method (Tryz.prog.types.size + Made.depth) 82 v "Compare").run Tryz.prog w = .ok (201, v) w := meth_of (by kernel_rfl) v w
theorem me82_202 (v : Value) (w : World) : (method (Tryz.prog.types.size + Made.depth) 82 v "Sum").run Tryz.prog w = .ok (202, v) w := meth_of (by kernel_rfl) v w
theorem me85_203 (v : Value) (w : World) : (method (Tryz.prog.types.size + Made.depth) 85 v "Plus").run Tryz.prog w = .ok (203, v) w := meth_of (by kernel_rfl) v w
theorem me101_206 (v : Value) (w : World) : (method (Tryz.prog.types.size + Made.depth) 101 v "Compare").run Tryz.prog w = .ok (206, v) w := meth_of (by kernel_rfl) v w
theorem me101_207 (v : Value) (w : World) : (method (Tryz.prog.types.size + Made.depth) 101 v "Sum").run Tryz.prog w = .ok (207, v) w := meth_of (by kernel_rfl) v w
theorem me105_211 (v : Value) (w : World) : (method (Tryz.prog.types.size + Made.depth) 105 v "Plus").run Tryz.prog w = .ok (211, v) w := meth_of (by kernel_rfl) v w
theorem cmp_isNaN_con {k:Nat} {a0:Int} {r:Bool} (H0:cmp_isNaN.f k a0=some r):SCon Tryz.prog 101 [.a (.c (.v (.int .i64 a0)))] [] (.a (.c (.v (.bool r)))) [] []:=by
 rw [cmp_isNaN.f] at H0
 exact M.s Tryz.func101 Tryz.ntmps101 R fun β W F=>xg 14 [] R<|by cases H0;exact ZR []
theorem cmp_Compare_con {k:Nat} {a0:Int} {a1:Int} {r:Int} (H0:cmp_Compare.f k a0 a1=some r):SCon Tryz.prog 72 [.a (.c (.v (.int .i64 a0))),.a (.c (.v (.int .i64 a1)))] [] (.a (.c (.v (.int .i64 r)))) [] []:=by
 rw [cmp_Compare.f] at H0
 exact M.s Tryz.func72 Tryz.ntmps72 R fun β W F=>xg 6 [] R<|M.b H0 fun x1 hx1 H0=>xg 2 [] R<|kR (cmp_isNaN_con hx1) R<|xk 4 [] R<|M.b H0 fun x2 hx2 H0=>xg 2 [] R<|kR (cmp_isNaN_con hx2) R<|xk 9 [] R<|M.c R H0 (fun h1 H0=>xg 6 [] R<|M.c R H0 (fun h2 H0=>xg 8 [] R<|by cases H0;exact ZR []) (fun h2 H0=>xg 9 [] R<|by cases H0;exact ZR [])) (fun h1 H0=>xg 8 [] R<|M.c R H0 (fun h3 H0=>xg 7 [] R<|by cases H0;exact ZR []) (fun h3 H0=>xg 10 [] R<|M.c R H0 (fun h4 H0=>xg 7 [] R<|by cases H0;exact ZR []) (fun h4 H0=>xg 10 [] R<|M.c R H0 (fun h5 H0=>xg 7 [] R<|by cases H0;exact ZR []) (fun h5 H0=>xg 8 [] R<|by cases H0;exact ZR []))))
theorem wave_Mark_Compare_con {k:Nat} {a0:TMark} {a1:TMark} {r:Int} (H0:wave_Mark_Compare.f k a0 a1=some r):SCon Tryz.prog 206 [.a (.agg ((eTMark a0).map .v)),.a (.agg ((eTMark a1).map .v))] [] (.a (.c (.v (.int .i64 r)))) [] []:=by
 rw [wave_Mark_Compare.f] at H0
 exact M.s Tryz.func206 Tryz.ntmps206 R fun β W F=>xg 8 [100,101] R<|M.b H0 fun x1 hx1 H0=>xg 7 [] R<|kR (cmp_Compare_con hx1) R<|xk 4 [] R<|by cases H0;exact ZR []
theorem cmp_Or_con {k:Nat} {S:Foot} {W0:World} {s0:Value} {l0:List Int} {r:Int} (hL0:LArg S W0 s0 intE 1 l0) (H0:cmp_Or.f k l0=some r):SCon Tryz.prog 71 [SV.raw s0] [(0,rd S W0)] (.a (.c (.v (.int .i64 r)))) [(0,rd S W0)] []:=by
 rw [cmp_Or.f] at H0
 obtain ⟨b0,o0,hI0⟩:=hL0
 exact M.s Tryz.func71 Tryz.ntmps71 R fun β W F=>xg 10 [] R<|M.b H0 fun x1 H1 H0=>M.j (σ:={ v:Unit // x1=Sum.inr v }) (fun q=>[(3,.a (.c (.v (.int .i64 0))))]) (fun q=>[(0,rd S W0)]) (xg 3 [] R<|K.lenL _ (hI0.is 0) g0 R R Tryz.underlying161 R<|xk 4 [] R<|M.l (cmp_Or.l0 k l0) H1 (fun v1=>[(3,.a (.c (.v (.int .i64 0)))),(6,SV.raw s0),(7,.a (.c (.v (.int .i64 (l0.length:Int))))),(8,.a (.c (.v (.int .i64 v1))))]) (fun v1=>[(0,rd S W0)]) [] fun n0 v1 H1=>xg 6 [] R<|M.c R H1 (fun h1 H1=>xg 5 [] R<|M.b H1 fun x2 hx2 H1=>xg 1 [] R<|K.idxL _ _ (hI0.is 0) (atL_get hx2) (atL_nn hx2) g0 R R R Tryz.underlying161 el161.size_run R<|K.load1L Y _ _ 0 (hI0.is 0) (atL_get hx2) g0 R R t3 R R<|xk 10 [] R<|M.c R H1 (fun h2 H1=>xg 12 [] R<|by cases H1;exact have H0:=sum_l H0;by cases H0;exact ZR []) (fun h2 H1=>xg 7 [] R<|M.ag H1 [])) (fun h1 H1=>xg 4 [] R<|M.jd ⟨(),oi H1⟩ []))<|by rintro ⟨w1,rfl⟩;exact have H0:=sum_r H0;xg 7 [] R<|by cases H0;exact ZR []
theorem item_Compare_con {k:Nat} {a0:TItem} {a1:TItem} {r:Int} (H0:item_Compare.f k a0 a1=some r):SCon Tryz.prog 46 [.a (.agg ((eTItem a0).map .v)),.a (.agg ((eTItem a1).map .v))] [] (.a (.c (.v (.int .i64 r)))) [] []:=by
 rw [item_Compare.f] at H0
 exact M.s Tryz.func46 Tryz.ntmps46 R fun β W F=>xg 8 [100,101] R<|M.b H0 fun x1 hx1 H0=>M.b H0 fun x2 hx2 H0=>M.b H0 fun x3 hx3 H0=>xg 5 [] R<|kR (cmp_Compare_con hx1) R<|xd 4 [] R<|kR (cmp_Compare_con hx2) R<|K.buildL Y 102 ([x1,x2]:List Int) [(0,_),(1,_)] [((.tmp 9),_),((.tmp 14),_)] intE_len g0 (AllE.spec ⟨R,R,trivial⟩) R R Tryz.underlying161 t3 R R R R R R R R<|K.cV (cf 71 R) [102] (fun β w S2 h=>cmp_Or_con (la 0 R intE_len R h) hx3) g0 (fun _=>R) R R R<|xd 1 [] R<|M.n<|xa 2 [] R<|by cases H0;exact ZR []
theorem shelf_Slot_Compare_con {k:Nat} {a0:TSlot} {a1:TSlot} {r:Int} (H0:shelf_Slot_Compare.f k a0 a1=some r):SCon Tryz.prog 201 [.a (.agg ((eTSlot a0).map .v)),.a (.agg ((eTSlot a1).map .v))] [] (.a (.c (.v (.int .i64 r)))) [] []:=by
 rw [shelf_Slot_Compare.f] at H0
 exact M.s Tryz.func201 Tryz.ntmps201 R fun β W F=>xg 8 [100,101] R<|M.b H0 fun x1 hx1 H0=>xg 5 [] R<|kR (item_Compare_con hx1) R<|xk 4 [] R<|by cases H0;exact ZR []
theorem tide_Tide_Plus_con {k:Nat} {a0:TTide} {a1:TTide} {r:TTide} (H0:tide_Tide_Plus.f k a0 a1=some r):SCon Tryz.prog 209 [.a (.agg ((eTTide a0).map .v)),.a (.agg ((eTTide a1).map .v))] [] (.a (.agg ((eTTide r).map .v))) [] []:=by
 rw [tide_Tide_Plus.f] at H0
 exact M.s Tryz.func209 Tryz.ntmps209 R fun β W F=>xg 15 [100,101,102] R<|M.c R H0 (fun h1 H0=>xg 8 [] R<|by cases H0;exact ZR []) (fun h1 H0=>xg 10 [] R<|M.c R H0 (fun h2 H0=>xg 8 [] R<|by cases H0;exact ZR []) (fun h2 H0=>xg 21 [] R<|K.bi2 (V:=.int .i64 (gmin a0.low (w64 (a0.sum+a1.low)))) g0 R R (fun _ _=>R) R<|xk 5 [] R<|by cases H0;exact ZR []))
theorem wave_Swell_taken_con {k:Nat} {a0:TSwell} {r:TTook} (H0:wave_Swell_taken.f k a0=some r):SCon Tryz.prog 212 [.a (.agg ((eTSwell a0).map .v))] [] (.a (.agg ((eTTook r).map .v))) [] []:=by
 rw [wave_Swell_taken.f] at H0
 exact M.s Tryz.func212 Tryz.ntmps212 R fun β W F=>xg 16 [100,101] R<|M.c R H0 (fun h1 H0=>xg 8 [] R<|by cases H0;exact ZR []) (fun h1 H0=>xg 11 [] R<|by cases H0;exact ZR [])
theorem wave_better_con {k:Nat} {a0:Int} {a1:TTook} {a2:TTook} {r:TTook} (H0:wave_better.f k a0 a1 a2=some r):SCon Tryz.prog 213 [.a (.c (.v (.int .i64 a0))),.a (.agg ((eTTook a1).map .v)),.a (.agg ((eTTook a2).map .v))] [] (.a (.agg ((eTTook r).map .v))) [] []:=by
 rw [wave_better.f] at H0
 exact M.s Tryz.func213 Tryz.ntmps213 R fun β W F=>xg 9 [100,101,102] R<|M.i (t:=(!a1.found)) (fun h1=>have H0:=bif_t H0 h1;xg 5 [] R<|kk h1 R<|kk h1 R<|kk h1 R<|K.skipU R R R R R<|K.skipU R R R R R<|K.skipU R R R R R<|K.skipU R R R R R<|K.skipU R R R R R<|K.skipU R R R R R<|K.skipU R R R R R<|K.skipU R R R R R<|kk h1 R<|K.pickT g0 R (h1) R R<|xk 2 [] R<|G.cond R (fun h2=>xg 8 [] R<|by cases H0;exact ZR []) (fun h2=>by cases h2)) (fun h1=>have H0:=bif_f H0 h1;M.i (t:=a2.found) (fun h3=>have H0:=bif_t H0 h3;M.b H0 fun x1 hx1 H0=>xg 5 [] R<|K.fieldAddr Y (g1 R R h1) R t77 R R<|K.load1 Y (g1 R R h1) R R t4 R R<|K.move (.inl R) (g1 R R h1) R R<|K.move (.inl R) (g1 R R h3) R R<|K.fieldAddr Y (g1 R R h3) R t77 R R<|K.loadS Y _ (g1 R R h3) R R t28 R R R<|K.fieldAddr Y (g1 R R h3) R t77 R R<|K.loadS Y _ (g1 R R h3) R R t28 R R R<|K.cR (cf 46 R) (item_Compare_con hx1) (g1 R R h3) R R R R<|K.bin (V:=.int .i64 (w64 (a0*x1))) (g1 R R h3) R R (fun _=>R) R<|K.bin (V:=.bool (decide ((w64 (a0*x1))<0))) (g1 R R h3) R R (fun _=>R) R<|K.pickT (g1 R R h1) R (h3) R R<|K.pickF g0 R (h1) R R<|xk 2 [] R<|M.c R H0 (fun h4 H0=>xg 8 [] R<|by cases H0;exact ZR []) (fun h4 H0=>xg 9 [] R<|by cases H0;exact ZR [])) (fun h3=>have H0:=bif_f H0 h3;xg 5 [] R<|K.fieldAddr Y (g1 R R h1) R t77 R R<|K.load1 Y (g1 R R h1) R R t4 R R<|K.move (.inl R) (g1 R R h1) R R<|kk h3 R<|kk h3 R<|kk h3 R<|kk h3 R<|kk h3 R<|kk h3 R<|kk h3 R<|kk h3 R<|K.pickF (g1 R R h1) R (h3) R R<|K.pickF g0 R (h1) R R<|xk 2 [] R<|G.cond R (fun h5=>by cases h5) (fun h5=>xg 9 [] R<|by cases H0;exact ZR [])))
theorem wave_Swell_Plus_con {k:Nat} {a0:TSwell} {a1:TSwell} {r:TSwell} (H0:wave_Swell_Plus.f k a0 a1=some r):SCon Tryz.prog 211 [.a (.agg ((eTSwell a0).map .v)),.a (.agg ((eTSwell a1).map .v))] [] (.a (.agg ((eTSwell r).map .v))) [] []:=by
 rw [wave_Swell_Plus.f] at H0
 exact M.s Tryz.func211 Tryz.ntmps211 R fun β W F=>xg 8 [100,101,102] R<|M.b H0 fun x1 hx1 H0=>M.b H0 fun x2 hx2 H0=>M.b H0 fun x3 hx3 H0=>M.b H0 fun x4 hx4 H0=>M.b H0 fun x5 hx5 H0=>M.b H0 fun x6 hx6 H0=>M.b H0 fun x7 hx7 H0=>xg 5 [] R<|kR (tide_Tide_Plus_con hx1) R<|xd 4 [] R<|kR (tide_Tide_Plus_con hx2) R<|xd 11 [] R<|kR (wave_Swell_taken_con hx3) R<|xd 1 [] R<|kR (wave_Swell_taken_con hx4) R<|kR (wave_better_con hx5) R<|xd 5 [] R<|kR (wave_better_con hx6) R<|xd 4 [] R<|kR (wave_better_con hx7) R<|xd 2 [] R<|M.n<|xa 2 [] R<|by cases H0;exact ZR []
theorem tide_Of_con {k:Nat} {S:Foot} {W0:World} {s0:Value} {l0:List Int} {r:TTide} (hL0:LArg S W0 s0 intE 1 l0) (H0:tide_Of.f k l0=some r):SCon Tryz.prog 208 [SV.raw s0] [(0,rd S W0)] (.a (.agg ((eTTide r).map .v))) [(0,rd S W0)] []:=by
 rw [tide_Of.f] at H0
 obtain ⟨b0,o0,hI0⟩:=hL0
 exact M.s Tryz.func208 Tryz.ntmps208 R fun β W F=>xg 10 [100,101] R<|M.b H0 fun x1 H1 H0=>M.x ([(2,.a (.c (.p 102 0))),(3,.a (.c (.p 103 0)))]) ([(0,rd S W0),(102,blk 102 [.v (.int .i64 0),.v (.int .i64 0),.v (.int .i64 0)] 103),(103,blk 103 [.v (.int .i64 x1.n),.v (.int .i64 x1.sum),.v (.int .i64 x1.low)] 103)]) (xg 3 [] R<|K.lenL _ (hI0.is 0) g0 R R Tryz.underlying161 R<|xk 4 [] R<|M.l (tide_Of.l0 k l0) H1 (fun (v1,v2)=>[(2,.a (.c (.p 108 0))),(3,.a (.c (.p 109 0))),(6,SV.raw s0),(7,.a (.c (.v (.int .i64 (l0.length:Int))))),(8,.a (.c (.v (.int .i64 v2))))]) (fun (v1,v2)=>[(0,rd S W0),(108,blk 108 [.v (.int .i64 0),.v (.int .i64 0),.v (.int .i64 0)] 103),(109,blk 109 [.v (.int .i64 v1.n),.v (.int .i64 v1.sum),.v (.int .i64 v1.low)] 103)]) [(108,100),(109,101)] fun n0 (v1,v2) H1=>xg 6 [] R<|M.c R H1 (fun h1 H1=>xg 5 [] R<|M.b H1 fun x2 hx2 H1=>xg 1 [] R<|K.idxL _ _ (hI0.is 0) (atL_get hx2) (atL_nn hx2) g0 R R R Tryz.underlying161 el161.size_run R<|K.load1L Y _ _ 0 (hI0.is 0) (atL_get hx2) g0 R R t3 R R<|xk 3 [] R<|M.b H1 fun x3 hx3 H1=>xg 5 [] R<|kR (tide_Tide_Plus_con hx3) R<|xk 8 [] R<|M.ag H1 []) (fun h1 H1=>xg 4 [] R<|by cases H1;exact M.xd [(102,108),(103,109)]))<|xg 7 [] R<|by cases H0;exact ZR []
theorem wave_Mark_Sum_con {k:Nat} {a0:TMark} {r:TSwell} (H0:wave_Mark_Sum.f k a0=some r):SCon Tryz.prog 207 [.a (.agg ((eTMark a0).map .v))] [] (.a (.agg ((eTSwell r).map .v))) [] []:=by
 rw [wave_Mark_Sum.f] at H0
 exact M.s Tryz.func207 Tryz.ntmps207 R fun β W F=>xg 6 [100,101] R<|M.b H0 fun x1 H1 H0=>M.j (σ:={ v:Unit // x1=Sum.inr v }) (fun q=>[(1,.a (.c (.p 102 0))),(2,.a (.c (.p 103 0)))]) (fun q=>[(102,blk 102 [.v (.int .i64 a0.op.time),.v (.bool a0.op.insert),.v (.int .i64 a0.op.item.key),.v (.int .i64 a0.op.item.id),.v (.bool a0.here),.v (.bool a0.took.found),.v (.int .i64 a0.took.item.key),.v (.int .i64 a0.took.item.id)] 101),(103,blk 103 [.v (.int .i64 0),.v (.int .i64 0),.v (.int .i64 0),.v (.int .i64 0),.v (.int .i64 0),.v (.int .i64 0),.v (.int .i64 0),.v (.int .i64 0),.v (.int .i64 0),.v (.int .i64 0),.v (.bool false),.v (.int .i64 0),.v (.int .i64 0),.v (.bool false),.v (.int .i64 0),.v (.int .i64 0)] 105)]) (xg 1 [] R<|M.b H1 fun x2 H2 H1=>M.x ([(1,.a (.c (.p 104 0))),(2,.a (.c (.p 105 0))),(4,.a (.c (.v (.bool x2))))]) ([(104,blk 104 [.v (.int .i64 a0.op.time),.v (.bool a0.op.insert),.v (.int .i64 a0.op.item.key),.v (.int .i64 a0.op.item.id),.v (.bool a0.here),.v (.bool a0.took.found),.v (.int .i64 a0.took.item.key),.v (.int .i64 a0.took.item.id)] 101),(105,blk 105 [.v (.int .i64 0),.v (.int .i64 0),.v (.int .i64 0),.v (.int .i64 0),.v (.int .i64 0),.v (.int .i64 0),.v (.int .i64 0),.v (.int .i64 0),.v (.int .i64 0),.v (.int .i64 0),.v (.bool false),.v (.int .i64 0),.v (.int .i64 0),.v (.bool false),.v (.int .i64 0),.v (.int .i64 0)] 105)]) (M.i (t:=a0.op.insert) (fun h1=>have H2:=bif_t H2 h1;xg 5 [] R<|K.fieldAddr Y (g1 R R h1) R t101 R R<|K.load1 Y (g1 R R h1) R R t4 R R<|K.pickT g0 R (h1) R R<|xk 2 [] R<|by cases H2;exact M.xd [(104,100),(105,101)]) (fun h1=>have H2:=bif_f H2 h1;xg 5 [] R<|kk h1 R<|kk h1 R<|K.pickF g0 R (h1) R R<|xk 2 [] R<|by cases H2;exact M.xd [(104,100),(105,101)]))<|M.c R H1 (fun h2 H1=>xg 1 [] R<|M.b H1 fun x3 hx3 H1=>M.b H1 fun x4 hx4 H1=>xg 1 [] R<|K.buildL Y 106 ([1]:List Int) [(0,_)] [(_,_)] intE_len g0 (AllE.spec ⟨R,trivial⟩) R R Tryz.underlying161 t3 R R R R R R R R<|K.cV (cf 208 R) [106] (fun β w S2 h=>tide_Of_con (la 0 R intE_len R h) hx3) g0 (fun _=>R) R R R<|K.buildL Y 107 ([0]:List Int) [(0,_)] [(_,_)] intE_len g0 (AllE.spec ⟨R,trivial⟩) R R Tryz.underlying161 t3 R R R R R R R R<|K.cV (cf 208 R) [107] (fun β w S2 h=>tide_Of_con (la 0 R intE_len R h) hx4) g0 (fun _=>R) R R R<|xd 6 [] R<|M.n<|xa 4 [] R<|by cases H1;exact have H0:=sum_l H0;by cases H0;exact ZR []) (fun h2 H1=>xg 8 [] R<|M.c R H1 (fun h3 H1=>xg 1 [] R<|M.b H1 fun x5 hx5 H1=>M.b H1 fun x6 hx6 H1=>xg 1 [] R<|K.buildL Y 108 ([1]:List Int) [(0,_)] [(_,_)] intE_len g0 (AllE.spec ⟨R,trivial⟩) R R Tryz.underlying161 t3 R R R R R R R R<|K.cV (cf 208 R) [108] (fun β w S2 h=>tide_Of_con (la 0 R intE_len R h) hx5) g0 (fun _=>R) R R R<|K.buildL Y 109 ([1]:List Int) [(0,_)] [(_,_)] intE_len g0 (AllE.spec ⟨R,trivial⟩) R R Tryz.underlying161 t3 R R R R R R R R<|K.cV (cf 208 R) [109] (fun β w S2 h=>tide_Of_con (la 0 R intE_len R h) hx6) g0 (fun _=>R) R R R<|xd 6 [] R<|M.n<|xa 4 [] R<|by cases H1;exact have H0:=sum_l H0;by cases H0;exact ZR []) (fun h3 H1=>xg 2 [] R<|M.jd ⟨(),oi H1⟩ [(102,104),(103,105)])))<|by rintro ⟨w1,rfl⟩;exact have H0:=sum_r H0;xg 1 [] R<|M.b H0 fun x7 hx7 H0=>M.b H0 fun x8 hx8 H0=>xg 1 [] R<|K.buildL Y 110 ([(-1)]:List Int) [(0,_)] [(_,_)] intE_len g0 (AllE.spec ⟨R,trivial⟩) R R Tryz.underlying161 t3 R R R R R R R R<|K.cV (cf 208 R) [110] (fun β w S2 h=>tide_Of_con (la 0 R intE_len R h) hx7) g0 (fun _=>R) R R R<|K.buildL Y 111 ([(-1)]:List Int) [(0,_)] [(_,_)] intE_len g0 (AllE.spec ⟨R,trivial⟩) R R Tryz.underlying161 t3 R R R R R R R R<|K.cV (cf 208 R) [111] (fun β w S2 h=>tide_Of_con (la 0 R intE_len R h) hx8) g0 (fun _=>R) R R R<|xk 13 [112] R<|M.c R H0 (fun h4 H0=>xg 15 [] R<|by cases H0;exact ZR []) (fun h4 H0=>xg 12 [] R<|by cases H0;exact ZR [])
theorem shelf_Slot_Sum_con {k:Nat} {a0:TSlot} {r:TSize} (H0:shelf_Slot_Sum.f k a0=some r):SCon Tryz.prog 202 [.a (.agg ((eTSlot a0).map .v))] [] (.a (.c (.v (.int .i64 r)))) [] []:=by
 rw [shelf_Slot_Sum.f] at H0
 exact M.s Tryz.func202 Tryz.ntmps202 R fun β W F=>xg 12 [100] R<|by cases H0;exact ZR []
theorem shelf_Size_Plus_con {k:Nat} {a0:TSize} {a1:TSize} {r:TSize} (H0:shelf_Size_Plus.f k a0 a1=some r):SCon Tryz.prog 203 [.a (.c (.v (.int .i64 a0))),.a (.c (.v (.int .i64 a1)))] [] (.a (.c (.v (.int .i64 r)))) [] []:=by
 rw [shelf_Size_Plus.f] at H0
 exact M.s Tryz.func203 Tryz.ntmps203 R fun β W F=>xg 14 [] R<|by cases H0;exact ZR []
end Go.Proofs.YtgjbibabegabnaaGreat
namespace Go.Proofs.YtgjbibabegabnaaGreat
open Go Go.Proofs.YtgjbibabegabnaaGreat.Sx
abbrev fCM:Cell (TNode TMark TSwell)→List Value:=cellE eTNode_TMark_TSwell
theorem fCM_len : ∀ c,(fCM c).length=31:=cellE_len eTNode_TMark_TSwell_len
theorem fCM_one : ∀ c,(fCM c).all Value.oneCell'=true:=cellE_one eTNode_TMark_TSwell_one
abbrev avM (x:(TNode TMark TSwell)):Av:=.agg ((eTNode_TMark_TSwell x).map .v)
abbrev poolM (k:Nat) (p:Pool (TNode TMark TSwell)):Tok:=pool k 201 195 3 31 fCM p
theorem nextM (p:Pool (TNode TMark TSwell)) (hc:p.cells.length<4294967296) (hf:p.free.length<4294967296):SCon Tryz.prog 175 [SV.p 0 0] [(0,poolM 0 p)] (SV.i (p.next zNodeM).1) [(0,poolM 0 (p.next zNodeM).2)] []:=by
  obtain ⟨cells,free,cap,held,vis⟩:=p
  simp only at hc hf
  rcases List.eq_nil_or_concat free with h0 | ⟨l,x,h0⟩
  · subst h0
    refine spec_of [(0,_)] [(0,_)] 46 Tryz.func175 R Tryz.ntmps175 R R R R (fun β W F=>?_)
    refine G.ent [(0,_)] [(0,_),(21,_),(22,_)] [21,22] (pool_open (by decide) (by decide) (by decide)) ⟨R,trivial⟩ R R R R<|G.seq<|G.rg<|K.as R R<|K.nil<|At.ns<|G.seq<|G.rg<|K.mv R R<|K.nilCheck g0 R R<|K.fieldAddr Y g0 R t201 R R<|K.load1 Y g0 R R t161 R R<|K.lenL (lrowV 22 3 intE 1 _) (lrowV_is intE_len (by decide)) g0 R R Tryz.underlying161 R<|K.bin g0 R R (fun _=>R) R<|K.as R R<|K.nil<|At.nr<|K.mv R R<|K.bin g0 R R (fun _=>R) R<|K.nil<|At.next<|G.cond R (fun h1=>?_) (fun h1=>?_)
    · exact absurd h1 (by simp [IntKind.wrap_i64] at * <;> omega)
    ·
      refine G.skip<|At.nr<|K.mv R R<|K.mv R R<|K.nilCheck g0 R R<|K.fieldAddr Y g0 R t201 R R<|K.load1 Y g0 R R t199 R R<|K.build Y [] [_,_,_,_,_,_,_,_,_,_,_,_,_,_,_,_,_,_,_,_,_,_,_,_,_,_,_,_,_,_,_] [] g0 (AllE.spec trivial) R R t195 R R<|K.buildL Y 136 [(⟨zNodeM,0,false⟩:Cell (TNode TMark TSwell))] [(0,_)] [((.tmp 35),_)] fCM_len g0 (AllE.spec ⟨R,trivial⟩) R R Tryz.underlying199 t195 R R R R R R R R<|K.appendL 137 (lrowV 136 195 fCM 31 _) _ el199 (lrowV_is fCM_len (by decide)) fCM_one g0 R R R R R (by simp only [List.length_cons,List.length_nil,maxLen];omega) (by simp only [List.length_cons,List.length_nil,maxLen];omega) R R R R R R<|K.nilCheck g0 R R<|K.fieldAddr Y g0 R t201 R R<|K.store Y _ g0 R R R t199 R R R R R<|K.nil<|At.nr<|K.mv R R<|K.nilCheck g0 R R<|K.fieldAddr Y g0 R t201 R R<|K.load1 Y g0 R R t199 R R<|K.lenL (lrowV 137 195 fCM 31 _) (lrowV_is fCM_len (by decide)) g0 R R Tryz.underlying199 R<|K.bin g0 R R (fun _=>R) R<|K.as R R<|K.nil<|At.next<|G.ret<|At.ent [(0,_),(137,_),(22,_)] [(0,poolM 0 ⟨_,_,_,_,_⟩)] [] (pool_close _ _ _ _ _) ⟨R,R,R,trivial⟩ R R R R<|At.done Y [(.tmp 2,.c _)] R ⟨.tmp R,trivial⟩ (to':=[(0,_)]) ⟨R,trivial⟩ ?_ ?_ R R R (.inl R)
      · simp [Pool.next, *]
      · exact ret_i (by simp [Pool.next,IntKind.wrap_i64];omega)
  · rw [List.concat_eq_append] at h0;subst h0
    have hget:(l++[x])[l.length]? = some x:=by simp
    refine spec_of [(0,_)] [(0,_)] 46 Tryz.func175 R Tryz.ntmps175 R R R R (fun β W F=>?_)
    refine G.ent [(0,_)] [(0,_),(21,_),(22,_)] [21,22] (pool_open (by decide) (by decide) (by decide)) ⟨R,trivial⟩ R R R R<|G.seq<|G.rg<|K.as R R<|K.nil<|At.ns<|G.seq<|G.rg<|K.mv R R<|K.nilCheck g0 R R<|K.fieldAddr Y g0 R t201 R R<|K.load1 Y g0 R R t161 R R<|K.lenL (lrowV 22 3 intE 1 _) (lrowV_is intE_len (by decide)) g0 R R Tryz.underlying161 R<|K.bin g0 R R (fun _=>R) R<|K.as R R<|K.nil<|At.nr<|K.mv R R<|K.bin g0 R R (fun _=>R) R<|K.nil<|At.next<|G.cond R (fun h1=>?_) (fun h1=>?_)
    ·
      refine G.seq<|G.rg<|K.mv R R<|K.nilCheck g0 R R<|K.fieldAddr Y g0 R t201 R R<|K.load1 Y g0 R R t161 R R<|K.mv R R<|K.idxL (lrowV 22 3 intE 1 _) l.length (lrowV_is intE_len (by decide)) hget (by simp [IntKind.wrap_i64] at * <;> omega) g0 R R R Tryz.underlying161 el161.size_run R<|K.load1L Y (lrowV 22 3 intE 1 _) l.length 0 (lrowV_is intE_len (by decide)) hget g0 R R t3 R R<|K.as R R<|K.nil<|At.nr<|K.mv R R<|K.mv R R<|K.nilCheck g0 R R<|K.fieldAddr Y g0 R t201 R R<|K.load1 Y g0 R R t161 R R<|K.mv R R<|K.cutL 126 l.length intE_len g0 R (.at_ R (by simp [IntKind.wrap_i64] at * <;> omega) (by simp [IntKind.wrap_i64] at * <;> omega)) R Tryz.underlying161 el161.size_run (by simp) R R R R<|K.nilCheck g0 R R<|K.fieldAddr Y g0 R t201 R R<|K.store Y _ g0 R R R t161 R R R R R<|K.nil<|At.nr<|K.mv R R<|K.as R R<|K.nil<|At.next<|G.ret<|At.over_ret<|At.ent [(0,_),(21,_),(126,_)] [(0,poolM 0 ⟨_,_,_,_,_⟩)] [] (pool_close _ _ _ _ _) ⟨R,R,R,trivial⟩ R R R R<|At.done Y [(.tmp 2,.c _)] R ⟨.tmp R,trivial⟩ (to':=[(0,_)]) ⟨R,trivial⟩ ?_ ?_ R R R (.inl R)
      · simp [Pool.next, *]
      · exact ret_i (by simp [Pool.next])
    · exact absurd h1 (by simp [IntKind.wrap_i64] at * <;> omega)
theorem findSM {cells:List (Cell (TNode TMark TSwell))} {n:Nat} {c:Cell (TNode TMark TSwell)} (hg:cells[n]? = some c) (hl:c.live=true) (hlen:cells.length<4294967296) (cap held vis:Int):SCon Tryz.prog 138 [SV.p 0 0,SV.agg [.i (n:Int),.i c.gen]] [(0,blk 0 [.nv 1,.nv 2,.i cap,.i held,.i vis] 201),(1,lrow 1 195 fCM 31 cells)] (.a (.c (.rp 1 (n*31)))) [(0,blk 0 [.nv 1,.nv 2,.i cap,.i held,.i (IntKind.i64.wrap (vis+1))] 201),(1,lrow 1 195 fCM 31 cells)] []:=by
  have hlt:=(List.getElem?_eq_some_iff.1 hg).1
  refine spec_of [(0,_),(1,_)] [(0,_),(1,_)] 48 Tryz.func138 R Tryz.ntmps138 R R R R (fun β W F=>?_)
  refine G.seq<|G.rg<|K.box Y 103 _ g0 R R R R R R<|K.as R R<|K.nil<|At.ns<|G.seq ?_
  have h1:(decide ((n:Int)<0))=false:=by simp [IntKind.wrap_i64] at * <;> omega
  refine G.rd mixed<|K.fieldAddr Y g0 R t119 R R<|K.load1 Y g0 R R t3 R R<|K.bin g0 R R (fun _=>R) R<|K.mv R R<|K.fieldAddr Y (g1 R R h1) R t119 R R<|K.load1 Y (g1 R R h1) R R t3 R R<|K.move (.inl R) (g1 R R h1) R R<|K.nilCheck (g1 R R h1) R R<|K.fieldAddr Y (g1 R R h1) R t201 R R<|K.load1 Y (g1 R R h1) R R t199 R R<|K.lenL (lrowV 1 195 fCM 31 _) (lrowV_is fCM_len (by decide)) (g1 R R h1) R R Tryz.underlying199 R<|K.bin (g1 R R h1) R R (fun _=>R) R<|K.pickF g0 R (h1) R R<|K.nil<|And.intro (by kernel_rfl)<|At.next<|G.cond R (fun h2=>?_) (fun h2=>?_)
  · exact absurd h2 (by simp [IntKind.wrap_i64] at * <;> omega)
  ·
    refine G.skip<|At.ns<|G.rd mixed<|K.mv R R<|K.nilCheck g0 R R<|K.fieldAddr Y g0 R t201 R R<|K.load1 Y g0 R R t199 R R<|K.fieldAddr Y g0 R t119 R R<|K.load1 Y g0 R R t3 R R<|K.idxL (lrowV 1 195 fCM 31 _) n (lrowV_is fCM_len (by decide)) hg R g0 R R R Tryz.underlying199 el199.size_run R<|K.as R R<|K.nil<|And.intro (by kernel_rfl)<|At.ns<|G.seq ?_
    have h3:(!c.live)=false:=by simp [hl]
    refine G.rd mixed<|K.mv R R<|K.nilL (lrowV 1 195 fCM 31 _) n 0 (lrowV_is fCM_len (by decide)) hg g0 R R R R<|K.fieldL Y (lrowV 1 195 fCM 31 _) n 0 30 (lrowV_is fCM_len (by decide)) hg g0 R R t195 R R R R<|K.load1L Y (lrowV 1 195 fCM 31 _) n 30 (lrowV_is fCM_len (by decide)) hg g0 R R t4 R R<|K.un g0 R (fun _=>R) R<|K.mv R R<|K.move (.inl R) (g1 R R h3) R R<|K.nilL (lrowV 1 195 fCM 31 _) n 0 (lrowV_is fCM_len (by decide)) hg (g1 R R h3) R R R R<|K.fieldL Y (lrowV 1 195 fCM 31 _) n 0 29 (lrowV_is fCM_len (by decide)) hg (g1 R R h3) R R t195 R R R R<|K.load1L Y (lrowV 1 195 fCM 31 _) n 29 (lrowV_is fCM_len (by decide)) hg (g1 R R h3) R R t3 R R<|K.fieldAddr Y (g1 R R h3) R t119 R R<|K.load1 Y (g1 R R h3) R R t3 R R<|K.bin (g1 R R h3) R R (fun _=>R) R<|K.pickF g0 R (h3) R R<|K.nil<|And.intro (by kernel_rfl)<|At.next<|G.cond R (fun h4=>?_) (fun h4=>?_)
    · exact absurd h4 (by simp)
    ·
      refine G.skip<|At.nr<|K.mv R R<|K.nilCheck g0 R R<|K.fieldAddr Y g0 R t201 R R<|K.load1 Y g0 R R t3 R R<|K.bin g0 R R (fun _=>R) R<|K.nilCheck g0 R R<|K.fieldAddr Y g0 R t201 R R<|K.store Y _ g0 R R R t3 R R R R R<|K.nil<|At.nr<|K.mv R R<|K.as R R<|K.nil<|At.next<|G.ret<|At.done Y [(.tmp 4,.c _)] R ⟨.tmp R,trivial⟩ (to':=[(0,_),(1,_)]) ⟨R,R,trivial⟩ ?_ ?_ R R R (.inl R)
      · rfl
      · rfl
theorem findNM {cells:List (Cell (TNode TMark TSwell))} {i g:Int} (hn:lookC cells i g=none) (hlen:cells.length<4294967296) (cap held vis:Int):SCon Tryz.prog 138 [SV.p 0 0,SV.agg [.i i,.i g]] [(0,blk 0 [.nv 1,.nv 2,.i cap,.i held,.i vis] 201),(1,lrow 1 195 fCM 31 cells)] (SV.raw (.pointer none)) [(0,blk 0 [.nv 1,.nv 2,.i cap,.i held,.i vis] 201),(1,lrow 1 195 fCM 31 cells)] []:=by
  refine spec_of [(0,_),(1,_)] [(0,_),(1,_)] 48 Tryz.func138 R Tryz.ntmps138 R R R R (fun β W F=>?_)
  refine G.seq<|G.rg<|K.box Y 103 _ g0 R R R R R R<|K.as R R<|K.nil<|At.ns<|G.seq ?_
  rcases Bool.eq_false_or_eq_true (decide (i<0)) with h1 | h1
  ·
    refine G.rd mixed<|K.fieldAddr Y g0 R t119 R R<|K.load1 Y g0 R R t3 R R<|K.bin g0 R R (fun _=>R) R<|K.mv R R<|K.sk R R h1 R<|K.sk R R h1 R<|K.sk R R h1 R<|K.sk R R h1 R<|K.sk R R h1 R<|K.sk R R h1 R<|K.sk R R h1 R<|K.sk R R h1 R<|K.pickT g0 R (h1) R R<|K.nil<|And.intro (by kernel_rfl)<|At.next<|G.cond R (fun h2=>?_) (fun h2=>?_)
    ·
      refine G.seq<|G.rg<|K.as R R<|K.nil<|At.next<|G.ret<|At.over_ret<|At.done Y [(.tmp 4,.c _)] R ⟨.tmp R,trivial⟩ (to':=[(0,_),(1,_)]) ⟨R,R,trivial⟩ ?_ ?_ R R R (.inl R)
      · rfl
      · rfl
    · cases h2
  ·
    refine G.rd mixed<|K.fieldAddr Y g0 R t119 R R<|K.load1 Y g0 R R t3 R R<|K.bin g0 R R (fun _=>R) R<|K.mv R R<|K.fieldAddr Y (g1 R R h1) R t119 R R<|K.load1 Y (g1 R R h1) R R t3 R R<|K.move (.inl R) (g1 R R h1) R R<|K.nilCheck (g1 R R h1) R R<|K.fieldAddr Y (g1 R R h1) R t201 R R<|K.load1 Y (g1 R R h1) R R t199 R R<|K.lenL (lrowV 1 195 fCM 31 _) (lrowV_is fCM_len (by decide)) (g1 R R h1) R R Tryz.underlying199 R<|K.bin (g1 R R h1) R R (fun _=>R) R<|K.pickF g0 R (h1) R R<|K.nil<|And.intro (by kernel_rfl)<|At.next<|G.cond R (fun h3=>?_) (fun h3=>?_)
    ·
      refine G.seq<|G.rg<|K.as R R<|K.nil<|At.next<|G.ret<|At.over_ret<|At.done Y [(.tmp 4,.c _)] R ⟨.tmp R,trivial⟩ (to':=[(0,_),(1,_)]) ⟨R,R,trivial⟩ ?_ ?_ R R R (.inl R)
      · rfl
      · rfl
    ·
      refine G.skip<|At.ns ?_
      obtain ⟨c,hg⟩ : ∃ c,cells[i.toNat]? = some c:=⟨_,List.getElem?_eq_getElem (by simp [IntKind.wrap_i64] at * <;> omega)⟩
      refine G.rd mixed<|K.mv R R<|K.nilCheck g0 R R<|K.fieldAddr Y g0 R t201 R R<|K.load1 Y g0 R R t199 R R<|K.fieldAddr Y g0 R t119 R R<|K.load1 Y g0 R R t3 R R<|K.idxL (lrowV 1 195 fCM 31 _) i.toNat (lrowV_is fCM_len (by decide)) hg (by simp [IntKind.wrap_i64] at * <;> omega) g0 R R R Tryz.underlying199 el199.size_run R<|K.as R R<|K.nil<|And.intro (by kernel_rfl)<|At.ns<|G.seq ?_
      rcases Bool.eq_false_or_eq_true (!c.live) with h4 | h4
      ·
        refine G.rd mixed<|K.mv R R<|K.nilL (lrowV 1 195 fCM 31 _) i.toNat 0 (lrowV_is fCM_len (by decide)) hg g0 R R R R<|K.fieldL Y (lrowV 1 195 fCM 31 _) i.toNat 0 30 (lrowV_is fCM_len (by decide)) hg g0 R R t195 R R R R<|K.load1L Y (lrowV 1 195 fCM 31 _) i.toNat 30 (lrowV_is fCM_len (by decide)) hg g0 R R t4 R R<|K.un g0 R (fun _=>R) R<|K.mv R R<|K.sk R R h4 R<|K.sk R R h4 R<|K.sk R R h4 R<|K.sk R R h4 R<|K.sk R R h4 R<|K.sk R R h4 R<|K.sk R R h4 R<|K.pickT g0 R (h4) R R<|K.nil<|And.intro (by kernel_rfl)<|At.next<|G.cond R (fun h5=>?_) (fun h5=>?_)
        ·
          refine G.seq<|G.rg<|K.as R R<|K.nil<|At.next<|G.ret<|At.over_ret<|At.done Y [(.tmp 4,.c _)] R ⟨.tmp R,trivial⟩ (to':=[(0,_),(1,_)]) ⟨R,R,trivial⟩ ?_ ?_ R R R (.inl R)
          · rfl
          · rfl
        · cases h5
      ·
        refine G.rd mixed<|K.mv R R<|K.nilL (lrowV 1 195 fCM 31 _) i.toNat 0 (lrowV_is fCM_len (by decide)) hg g0 R R R R<|K.fieldL Y (lrowV 1 195 fCM 31 _) i.toNat 0 30 (lrowV_is fCM_len (by decide)) hg g0 R R t195 R R R R<|K.load1L Y (lrowV 1 195 fCM 31 _) i.toNat 30 (lrowV_is fCM_len (by decide)) hg g0 R R t4 R R<|K.un g0 R (fun _=>R) R<|K.mv R R<|K.move (.inl R) (g1 R R h4) R R<|K.nilL (lrowV 1 195 fCM 31 _) i.toNat 0 (lrowV_is fCM_len (by decide)) hg (g1 R R h4) R R R R<|K.fieldL Y (lrowV 1 195 fCM 31 _) i.toNat 0 29 (lrowV_is fCM_len (by decide)) hg (g1 R R h4) R R t195 R R R R<|K.load1L Y (lrowV 1 195 fCM 31 _) i.toNat 29 (lrowV_is fCM_len (by decide)) hg (g1 R R h4) R R t3 R R<|K.fieldAddr Y (g1 R R h4) R t119 R R<|K.load1 Y (g1 R R h4) R R t3 R R<|K.bin (g1 R R h4) R R (fun _=>R) R<|K.pickF g0 R (h4) R R<|K.nil<|And.intro (by kernel_rfl)<|At.next<|G.cond R (fun h6=>?_) (fun h6=>?_)
        ·
          refine G.seq<|G.rg<|K.as R R<|K.nil<|At.next<|G.ret<|At.over_ret<|At.done Y [(.tmp 4,.c _)] R ⟨.tmp R,trivial⟩ (to':=[(0,_),(1,_)]) ⟨R,R,trivial⟩ ?_ ?_ R R R (.inl R)
          · rfl
          · rfl
        · exact absurd h6 (by simp_all [lookC])
theorem findSM' {cells : List (Cell (TNode TMark TSwell))} {n : Nat} {c : Cell (TNode TMark TSwell)} (hg : cells[n]? = some c) (hl : c.live = true) (hlen : cells.length < 4294967296) (cap held vis : Int) (k0 k1 k2 : Nat) : SCon Tryz.prog 138 [SV.p k0 0, SV.agg [.i (n : Int), .i c.gen]]
    [(k0,blk k0 [.nv k1,.nv k2,.i cap,.i held,.i vis] 201),(k1,lrow k1 195 fCM 31 cells)] (.a (.c (.rp k1 (n*31)))) [(k0,blk k0 [.nv k1,.nv k2,.i cap,.i held,.i (IntKind.i64.wrap (vis+1))] 201),(k1,lrow k1 195 fCM 31 cells)] [] :=
  SCon.ren (rn [(0,k0),(1,k1),(2,k2)]) (findSM hg hl hlen cap held vis) ⟨blk_ren R R,lrow_ren R,trivial⟩ ⟨blk_ren R R,lrow_ren R,trivial⟩ (by simp) (by simp)
theorem findNM' {cells : List (Cell (TNode TMark TSwell))} {i g : Int} (hn : lookC cells i g = none) (hlen : cells.length < 4294967296) (cap held vis : Int) (k0 k1 k2 : Nat) : SCon Tryz.prog 138 [SV.p k0 0, SV.agg [.i i, .i g]]
    [(k0,blk k0 [.nv k1,.nv k2,.i cap,.i held,.i vis] 201),(k1,lrow k1 195 fCM 31 cells)] (SV.raw (.pointer none)) [(k0,blk k0 [.nv k1,.nv k2,.i cap,.i held,.i vis] 201),(k1,lrow k1 195 fCM 31 cells)] [] :=
  SCon.ren (rn [(0,k0),(1,k1),(2,k2)]) (findNM hn hlen cap held vis) ⟨blk_ren R R,lrow_ren R,trivial⟩ ⟨blk_ren R R,lrow_ren R,trivial⟩ (by simp) (by simp)
theorem getM (p:Pool (TNode TMark TSwell)) (i g:Int) (hlen:p.cells.length<4294967296) (hfree:p.free.length<4294967296):SCon Tryz.prog 113 [SV.p 0 0,SV.agg [.i i,.i g]] [(0,poolM 0 p)] (.tup [avM (p.get zNodeM i g).1.1,.c (.b (p.get zNodeM i g).1.2)]) [(0,poolM 0 (p.get zNodeM i g).2)] []:=by
  obtain ⟨cells,free,cap,held,vis⟩:=p
  simp only at hlen hfree
  cases hlk:lookC cells i g with
  | none =>
    refine spec_of [(0,_),(1,_)] [(0,_)] 18 Tryz.func113 R Tryz.ntmps113 R R R R (fun β W F=>?_)
    refine G.ent [(0,_)] [(0,_),(21,_),(22,_)] [21,22] (pool_open (by decide) (by decide) (by decide)) ⟨R,trivial⟩ R R R R<|G.seq<|G.rg<|K.box Y 103 _ g0 R R R R R R<|K.alloc Y 104 _ g0 t140 R R R R R<|K.as R R<|K.nil<|At.nr<|K.mv R R<|K.loadS Y _ g0 R R t119 R R R<|K.call0 [(.func 138,_),((.tmp 8),_),((.tmp 9),_)] (findNM' hlk hlen _ _ _ 0 21 22) (toFn_func (cf 138 R) R) g0 ⟨R,R,R,trivial⟩ ⟨R,R,trivial⟩ R R R R R R<|K.as R R<|K.nil<|At.ns<|G.seq<|G.rg<|K.mv R R<|K.bin g0 R R (pn_eql_none Tryz.underlying192) R<|K.nil<|At.next<|G.cond R (fun h1=>?_) (fun h1=>?_)
    ·
      refine G.seq<|G.rg<|K.alloc Y 107 _ g0 t140 R R R R R<|K.nil<|At.nr<|K.loadS Y _ g0 R R t140 R R R<|K.store Y _ g0 R R R t140 R R R R R<|K.as R R<|K.nil<|At.next<|G.ret<|At.over_ret<|At.ent [(0,_),(21,_),(22,_)] [(0,poolM 0 ⟨_,_,_,_,_⟩)] [] (pool_close _ _ _ _ _) ⟨R,R,R,trivial⟩ R R R R<|At.done Y [(.cell 4 140,.agg [_,_,_,_,_,_,_,_,_,_,_,_,_,_,_,_,_,_,_,_,_,_,_,_,_,_,_,_,_]),(.tmp 5,.c _)] R ⟨.st R R t140 R R,.tmp R,trivial⟩ (to':=[(0,_)]) ⟨R,trivial⟩ ?_ ?_ R R R (.inl R)
      · simp only [Pool.get,hlk]
      · simp only [Pool.get,hlk];rfl
    · cases h1
  | some c =>
    obtain ⟨n,rfl,hg,hl,rfl⟩:=lookC_some hlk
    refine spec_of [(0,_),(1,_)] [(0,_)] 18 Tryz.func113 R Tryz.ntmps113 R R R R (fun β W F=>?_)
    refine G.ent [(0,_)] [(0,_),(21,_),(22,_)] [21,22] (pool_open (by decide) (by decide) (by decide)) ⟨R,trivial⟩ R R R R<|G.seq<|G.rg<|K.box Y 103 _ g0 R R R R R R<|K.alloc Y 104 _ g0 t140 R R R R R<|K.as R R<|K.nil<|At.nr<|K.mv R R<|K.loadS Y _ g0 R R t119 R R R<|K.call0 [(.func 138,_),((.tmp 8),_),((.tmp 9),_)] (findSM' hg hl hlen _ _ _ 0 21 22) (toFn_func (cf 138 R) R) g0 ⟨R,R,R,trivial⟩ ⟨R,R,trivial⟩ R R R R R R<|K.as R R<|K.nil<|At.ns<|G.seq<|G.rg<|K.mv R R<|K.eqnilL (lrowV 21 195 fCM 31 _) n 0 (B:=false) (lrowV_is fCM_len (by decide)) hg g0 R R R R (pn_eql_some Tryz.underlying192) R<|K.nil<|At.next<|G.cond R (fun h1=>?_) (fun h1=>?_)
    · cases h1
    ·
      refine G.skip<|At.nr<|K.mv R R<|K.nilL (lrowV 21 195 fCM 31 _) n 0 (lrowV_is fCM_len (by decide)) hg g0 R R R R<|K.fieldL Y (lrowV 21 195 fCM 31 _) n 0 0 (lrowV_is fCM_len (by decide)) hg g0 R R t195 R R R R<|K.loadSL Y (lrowV 21 195 fCM 31 _) n 0 [_,_,_,_,_,_,_,_,_,_,_,_,_,_,_,_,_,_,_,_,_,_,_,_,_,_,_,_,_] [_,_,_,_,_,_,_,_,_,_,_,_,_,_,_,_,_,_,_,_,_,_,_,_,_,_,_,_,_] (lrowV_is fCM_len (by decide)) hg g0 R R t140 R R R R R<|K.store Y _ g0 R R R t140 R R R R R<|K.as R R<|K.nil<|At.next<|G.ret<|At.ent [(0,_),(21,_),(22,_)] [(0,poolM 0 ⟨_,_,_,_,_⟩)] [] (pool_close _ _ _ _ _) ⟨R,R,R,trivial⟩ R R R R<|At.done Y [(.cell 4 140,.agg [_,_,_,_,_,_,_,_,_,_,_,_,_,_,_,_,_,_,_,_,_,_,_,_,_,_,_,_,_]),(.tmp 5,.c _)] R ⟨.st R R t140 R R,.tmp R,trivial⟩ (to':=[(0,_)]) ⟨R,trivial⟩ ?_ ?_ R R R (.inl R)
      · simp [Pool.get,hlk,Pool.hit]
      · simp only [Pool.get,hlk];rfl
theorem setM (p:Pool (TNode TMark TSwell)) (i g:Int) (v:(TNode TMark TSwell)) (hlen:p.cells.length<4294967296) (hfree:p.free.length<4294967296):SCon Tryz.prog 164 [SV.p 0 0,SV.agg [.i i,.i g],.a (avM v)] [(0,poolM 0 p)] (SV.b (p.set i g v).1) [(0,poolM 0 (p.set i g v).2)] []:=by
  obtain ⟨cells,free,cap,held,vis⟩:=p
  simp only at hlen hfree
  cases hlk:lookC cells i g with
  | none =>
    refine spec_of [(0,_),(1,_),(2,_)] [(0,_)] 19 Tryz.func164 R Tryz.ntmps164 R R R R (fun β W F=>?_)
    refine G.ent [(0,_)] [(0,_),(21,_),(22,_)] [21,22] (pool_open (by decide) (by decide) (by decide)) ⟨R,trivial⟩ R R R R<|G.seq<|G.rg<|K.box Y 104 _ g0 R R R R R R<|K.box Y 105 _ g0 R R R R R R<|K.as R R<|K.nil<|At.nr<|K.mv R R<|K.loadS Y _ g0 R R t119 R R R<|K.call0 [(.func 138,_),((.tmp 8),_),((.tmp 9),_)] (findNM' hlk hlen _ _ _ 0 21 22) (toFn_func (cf 138 R) R) g0 ⟨R,R,R,trivial⟩ ⟨R,R,trivial⟩ R R R R R R<|K.as R R<|K.nil<|At.ns<|G.seq<|G.rg<|K.mv R R<|K.bin g0 R R (pn_neq_none Tryz.underlying192) R<|K.nil<|At.next<|G.cond R (fun h1=>?_) (fun h1=>?_)
    · cases h1
    ·
      refine G.skip<|At.nr<|K.mv R R<|K.bin g0 R R (pn_neq_none Tryz.underlying192) R<|K.as R R<|K.nil<|At.next<|G.ret<|At.ent [(0,_),(21,_),(22,_)] [(0,poolM 0 ⟨_,_,_,_,_⟩)] [] (pool_close _ _ _ _ _) ⟨R,R,R,trivial⟩ R R R R<|At.done Y [(.tmp 6,.c _)] R ⟨.tmp R,trivial⟩ (to':=[(0,_)]) ⟨R,trivial⟩ ?_ ?_ R R R (.inl R)
      · simp only [Pool.set,hlk]
      · simp only [Pool.set,hlk];rfl
  | some c =>
    obtain ⟨n,rfl,hg,hl,rfl⟩:=lookC_some hlk
    refine spec_of [(0,_),(1,_),(2,_)] [(0,_)] 19 Tryz.func164 R Tryz.ntmps164 R R R R (fun β W F=>?_)
    refine G.ent [(0,_)] [(0,_),(21,_),(22,_)] [21,22] (pool_open (by decide) (by decide) (by decide)) ⟨R,trivial⟩ R R R R<|G.seq<|G.rg<|K.box Y 104 _ g0 R R R R R R<|K.box Y 105 _ g0 R R R R R R<|K.as R R<|K.nil<|At.nr<|K.mv R R<|K.loadS Y _ g0 R R t119 R R R<|K.call0 [(.func 138,_),((.tmp 8),_),((.tmp 9),_)] (findSM' hg hl hlen _ _ _ 0 21 22) (toFn_func (cf 138 R) R) g0 ⟨R,R,R,trivial⟩ ⟨R,R,trivial⟩ R R R R R R<|K.as R R<|K.nil<|At.ns<|G.seq<|G.rg<|K.mv R R<|K.eqnilL (lrowV 21 195 fCM 31 _) n 0 (B:=true) (lrowV_is fCM_len (by decide)) hg g0 R R R R (pn_neq_some Tryz.underlying192) R<|K.nil<|At.next<|G.cond R (fun h1=>?_) (fun h1=>?_)
    ·
      refine G.rg<|K.mv R R<|K.loadS Y _ g0 R R t140 R R R<|K.nilL (lrowV 21 195 fCM 31 _) n 0 (lrowV_is fCM_len (by decide)) hg g0 R R R R<|K.fieldL Y (lrowV 21 195 fCM 31 _) n 0 0 (lrowV_is fCM_len (by decide)) hg g0 R R t195 R R R R<|K.storeL Y n 0 [_,_,_,_,_,_,_,_,_,_,_,_,_,_,_,_,_,_,_,_,_,_,_,_,_,_,_,_,_] { c with v:=v } fCM_len (by decide) hg g0 R R R t140 R R R R R R<|K.nil<|At.nr<|K.mv R R<|K.eqnilL (lrowV 21 195 fCM 31 _) n 0 (B:=true) (lrowV_is fCM_len (by decide)) (set_get hg) g0 R R R R (pn_neq_some Tryz.underlying192) R<|K.as R R<|K.nil<|At.next<|G.ret<|At.ent [(0,_),(21,_),(22,_)] [(0,poolM 0 ⟨_,_,_,_,_⟩)] [] (pool_close _ _ _ _ _) ⟨R,R,R,trivial⟩ R R R R<|At.done Y [(.tmp 6,.c _)] R ⟨.tmp R,trivial⟩ (to':=[(0,_)]) ⟨R,trivial⟩ ?_ ?_ R R R (.inl R)
      · simp [Pool.set,hlk,Pool.hit]
      · simp only [Pool.set,hlk];rfl
    · cases h1
theorem dropM (p:Pool (TNode TMark TSwell)) (i g:Int) (hlen:p.cells.length<4294967296) (hfree:p.free.length<4294967296):SCon Tryz.prog 119 [SV.p 0 0,SV.agg [.i i,.i g]] [(0,poolM 0 p)] (.tup [avM (p.drop zNodeM i g).1.1,.c (.b (p.drop zNodeM i g).1.2)]) [(0,poolM 0 (p.drop zNodeM i g).2)] []:=by
  obtain ⟨cells,free,cap,held,vis⟩:=p
  simp only at hlen hfree
  cases hlk:lookC cells i g with
  | none =>
    refine spec_of [(0,_),(1,_)] [(0,_)] 50 Tryz.func119 R Tryz.ntmps119 R R R R (fun β W F=>?_)
    refine G.ent [(0,_)] [(0,_),(21,_),(22,_)] [21,22] (pool_open (by decide) (by decide) (by decide)) ⟨R,trivial⟩ R R R R<|G.seq<|G.rg<|K.box Y 103 _ g0 R R R R R R<|K.alloc Y 104 _ g0 t140 R R R R R<|K.as R R<|K.nil<|At.nr<|K.mv R R<|K.loadS Y _ g0 R R t119 R R R<|K.call0 [(.func 138,_),((.tmp 9),_),((.tmp 10),_)] (findNM' hlk hlen _ _ _ 0 21 22) (toFn_func (cf 138 R) R) g0 ⟨R,R,R,trivial⟩ ⟨R,R,trivial⟩ R R R R R R<|K.as R R<|K.nil<|At.ns<|G.seq<|G.rg<|K.mv R R<|K.bin g0 R R (pn_eql_none Tryz.underlying192) R<|K.nil<|At.next<|G.cond R (fun h1=>?_) (fun h1=>?_)
    ·
      refine G.seq<|G.rg<|K.alloc Y 107 _ g0 t140 R R R R R<|K.nil<|At.nr<|K.loadS Y _ g0 R R t140 R R R<|K.store Y _ g0 R R R t140 R R R R R<|K.as R R<|K.nil<|At.next<|G.ret<|At.over_ret<|At.ent [(0,_),(21,_),(22,_)] [(0,poolM 0 ⟨_,_,_,_,_⟩)] [] (pool_close _ _ _ _ _) ⟨R,R,R,trivial⟩ R R R R<|At.done Y [(.cell 4 140,.agg [_,_,_,_,_,_,_,_,_,_,_,_,_,_,_,_,_,_,_,_,_,_,_,_,_,_,_,_,_]),(.tmp 5,.c _)] R ⟨.st R R t140 R R,.tmp R,trivial⟩ (to':=[(0,_)]) ⟨R,trivial⟩ ?_ ?_ R R R (.inl R)
      · simp only [Pool.drop,hlk]
      · simp only [Pool.drop,hlk];rfl
    · cases h1
  | some c =>
    obtain ⟨n,rfl,hg,hl,rfl⟩:=lookC_some hlk
    refine spec_of [(0,_),(1,_)] [(0,_)] 50 Tryz.func119 R Tryz.ntmps119 R R R R (fun β W F=>?_)
    refine G.ent [(0,_)] [(0,_),(21,_),(22,_)] [21,22] (pool_open (by decide) (by decide) (by decide)) ⟨R,trivial⟩ R R R R<|G.seq<|G.rg<|K.box Y 103 _ g0 R R R R R R<|K.alloc Y 104 _ g0 t140 R R R R R<|K.as R R<|K.nil<|At.nr<|K.mv R R<|K.loadS Y _ g0 R R t119 R R R<|K.call0 [(.func 138,_),((.tmp 9),_),((.tmp 10),_)] (findSM' hg hl hlen _ _ _ 0 21 22) (toFn_func (cf 138 R) R) g0 ⟨R,R,R,trivial⟩ ⟨R,R,trivial⟩ R R R R R R<|K.as R R<|K.nil<|At.ns<|G.seq<|G.rg<|K.mv R R<|K.eqnilL (lrowV 21 195 fCM 31 _) n 0 (B:=false) (lrowV_is fCM_len (by decide)) hg g0 R R R R (pn_eql_some Tryz.underlying192) R<|K.nil<|At.next<|G.cond R (fun h1=>?_) (fun h1=>?_)
    · cases h1
    ·
      refine G.skip<|At.nr<|K.mv R R<|K.nilL (lrowV 21 195 fCM 31 _) n 0 (lrowV_is fCM_len (by decide)) hg g0 R R R R<|K.fieldL Y (lrowV 21 195 fCM 31 _) n 0 0 (lrowV_is fCM_len (by decide)) hg g0 R R t195 R R R R<|K.loadSL Y (lrowV 21 195 fCM 31 _) n 0 [_,_,_,_,_,_,_,_,_,_,_,_,_,_,_,_,_,_,_,_,_,_,_,_,_,_,_,_,_] [_,_,_,_,_,_,_,_,_,_,_,_,_,_,_,_,_,_,_,_,_,_,_,_,_,_,_,_,_] (lrowV_is fCM_len (by decide)) hg g0 R R t140 R R R R R<|K.alloc Y 108 _ g0 t140 R R R R R<|K.store Y _ g0 R R R t140 R R R R R<|K.nil<|At.nr<|K.mv R R<|K.mv R R<|K.nilL (lrowV 21 195 fCM 31 _) n 0 (lrowV_is fCM_len (by decide)) hg g0 R R R R<|K.fieldL Y (lrowV 21 195 fCM 31 _) n 0 29 (lrowV_is fCM_len (by decide)) hg g0 R R t195 R R R R<|K.load1L Y (lrowV 21 195 fCM 31 _) n 29 (lrowV_is fCM_len (by decide)) hg g0 R R t3 R R<|K.build Y [(1,_)] [_,_,_,_,_,_,_,_,_,_,_,_,_,_,_,_,_,_,_,_,_,_,_,_,_,_,_,_,_,_,_] [((.tmp 23),_)] g0 (AllE.spec ⟨R,trivial⟩) R R t195 R R<|K.nilL (lrowV 21 195 fCM 31 _) n 0 (lrowV_is fCM_len (by decide)) hg g0 R R R R<|K.storeL Y n 0 [_,_,_,_,_,_,_,_,_,_,_,_,_,_,_,_,_,_,_,_,_,_,_,_,_,_,_,_,_,_,_] ⟨zNodeM,c.gen,false⟩ fCM_len (by decide) hg g0 R R R t195 R R R R R R<|K.nil<|At.nr<|K.mv R R<|K.nilCheck g0 R R<|K.fieldAddr Y g0 R t201 R R<|K.load1 Y g0 R R t3 R R<|K.bin g0 R R (fun _=>R) R<|K.nilCheck g0 R R<|K.fieldAddr Y g0 R t201 R R<|K.store Y _ g0 R R R t3 R R R R R<|K.nil<|At.ns<|G.seq<|G.rg<|K.mv R R<|K.nilL (lrowV 21 195 fCM 31 _) n 0 (lrowV_is fCM_len (by decide)) (set_get hg) g0 R R R R<|K.fieldL Y (lrowV 21 195 fCM 31 _) n 0 29 (lrowV_is fCM_len (by decide)) (set_get hg) g0 R R t195 R R R R<|K.load1L Y (lrowV 21 195 fCM 31 _) n 29 (lrowV_is fCM_len (by decide)) (set_get hg) g0 R R t3 R R<|K.bin g0 R R (fun _=>R) R<|K.nil<|At.next<|G.cond R (fun h2=>?_) (fun h2=>?_)
      ·
        refine G.rd mixed<|K.mv R R<|K.mv R R<|K.nilCheck g0 R R<|K.fieldAddr Y g0 R t201 R R<|K.load1 Y g0 R R t161 R R<|K.fieldAddr Y g0 R t119 R R<|K.load1 Y g0 R R t3 R R<|K.buildL Y 145 [(n:Int)] [(0,_)] [((.tmp 44),_)] intE_len g0 (AllE.spec ⟨R,trivial⟩) R R Tryz.underlying161 t3 R R R R R R R R<|K.appendL 146 (lrowV 145 3 intE 1 _) _ el161 (lrowV_is intE_len (by decide)) intE_one g0 R R R R R (by simp only [List.length_cons,List.length_nil,maxLen];omega) (by simp only [List.length_cons,List.length_nil,maxLen];omega) R R R R R R<|K.nilCheck g0 R R<|K.fieldAddr Y g0 R t201 R R<|K.store Y _ g0 R R R t161 R R R R R<|K.nil<|And.intro (by kernel_rfl)<|At.nr<|K.loadS Y _ g0 R R t140 R R R<|K.store Y _ g0 R R R t140 R R R R R<|K.as R R<|K.nil<|At.next<|G.ret<|At.ent [(0,_),(21,_),(146,_)] [(0,poolM 0 ⟨_,_,_,_,_⟩)] [] (pool_close _ _ _ _ _) ⟨R,R,R,trivial⟩ R R R R<|At.done Y [(.cell 4 140,.agg [_,_,_,_,_,_,_,_,_,_,_,_,_,_,_,_,_,_,_,_,_,_,_,_,_,_,_,_,_]),(.tmp 5,.c _)] R ⟨.st R R t140 R R,.tmp R,trivial⟩ (to':=[(0,_)]) ⟨R,trivial⟩ ?_ ?_ R R R (.inl R)
        · simp [Pool.drop,hlk,Pool.hit,h2]
        · simp only [Pool.drop,hlk];rfl
      ·
        refine G.skip<|At.nr<|K.loadS Y _ g0 R R t140 R R R<|K.store Y _ g0 R R R t140 R R R R R<|K.as R R<|K.nil<|At.next<|G.ret<|At.ent [(0,_),(21,_),(22,_)] [(0,poolM 0 ⟨_,_,_,_,_⟩)] [] (pool_close _ _ _ _ _) ⟨R,R,R,trivial⟩ R R R R<|At.done Y [(.cell 4 140,.agg [_,_,_,_,_,_,_,_,_,_,_,_,_,_,_,_,_,_,_,_,_,_,_,_,_,_,_,_,_]),(.tmp 5,.c _)] R ⟨.st R R t140 R R,.tmp R,trivial⟩ (to':=[(0,_)]) ⟨R,trivial⟩ ?_ ?_ R R R (.inl R)
        · simp [Pool.drop,hlk,Pool.hit,h2]
        · simp only [Pool.drop,hlk];rfl
theorem putFM (p:Pool (TNode TMark TSwell)) (v:(TNode TMark TSwell)) (hh:p.held=p.cap):SCon Tryz.prog 163 [SV.p 0 0,.a (avM v)] [(0,poolM 0 p)] (.tup [.agg [.i 0,.i 0],.c (.b false)]) [(0,poolM 0 p)] []:=by
  obtain ⟨cells,free,cap,held,vis⟩:=p
  simp only at hh
  refine spec_of [(0,_),(1,_)] [(0,_)] 53 Tryz.func163 R Tryz.ntmps163 R R R R (fun β W F=>?_)
  refine G.ent [(0,_)] [(0,_),(21,_),(22,_)] [21,22] (pool_open (by decide) (by decide) (by decide)) ⟨R,trivial⟩ R R R R<|G.seq<|G.rg<|K.box Y 103 _ g0 R R R R R R<|K.alloc Y 104 _ g0 t119 R R R R R<|K.as R R<|K.nil<|At.ns<|G.seq<|G.rd mixed<|K.mv R R<|K.nilCheck g0 R R<|K.fieldAddr Y g0 R t201 R R<|K.load1 Y g0 R R t3 R R<|K.mv R R<|K.nilCheck g0 R R<|K.fieldAddr Y g0 R t201 R R<|K.load1 Y g0 R R t3 R R<|K.bin g0 R R (fun _=>R) R<|K.nil<|And.intro (by kernel_rfl)<|At.next<|G.cond R (fun h1=>?_) (fun h1=>?_)
  ·
    refine G.seq<|G.rg<|K.build Y [] [_,_] [] g0 (AllE.spec trivial) R R t119 R R<|K.store Y _ g0 R R R t119 R R R R R<|K.as R R<|K.nil<|At.next<|G.ret<|At.over_ret<|At.ent [(0,_),(21,_),(22,_)] [(0,poolM 0 ⟨_,_,_,_,_⟩)] [] (pool_close _ _ _ _ _) ⟨R,R,R,trivial⟩ R R R R<|At.done Y [(.cell 4 119,.agg [_,_]),(.tmp 5,.c _)] R ⟨.st R R t119 R R,.tmp R,trivial⟩ (to':=[(0,_)]) ⟨R,trivial⟩ ?_ ?_ R R R (.inl R)
    · rfl
    · rfl
  · exact absurd h1 (by simp [hh])
theorem putTM (p : Pool (TNode TMark TSwell)) (v : (TNode TMark TSwell)) (hh : p.held ≠ p.cap) (hlen : p.cells.length < 4294967296) (hfree : p.free.length < 4294967296) {n : Nat} {c : Cell (TNode TMark TSwell)} (hn : (p.next zNodeM).1 = n) (hg : (p.next zNodeM).2.cells[n]? = some c) : SCon Tryz.prog 163 [SV.p 0 0, .a (avM v)] [(0, poolM 0 p)]
    (.tup [.agg [.i n,.i (IntKind.i64.wrap (c.gen+1))],.c (.b true)]) [(0,poolM 0 ((p.next zNodeM).2.lay n c v))] []:=by
  obtain ⟨cells,free,cap,held,vis⟩:=p
  simp only at hh hlen hfree
  refine spec_of [(0,_),(1,_)] [(0,_)] 53 Tryz.func163 R Tryz.ntmps163 R R R R (fun β W F=>?_)
  refine G.ent [(0,_)] [(0,_),(21,_),(22,_)] [21,22] (pool_open (by decide) (by decide) (by decide)) ⟨R,trivial⟩ R R R R<|G.seq<|G.rg<|K.box Y 103 _ g0 R R R R R R<|K.alloc Y 104 _ g0 t119 R R R R R<|K.as R R<|K.nil<|At.ns<|G.seq<|G.rd mixed<|K.mv R R<|K.nilCheck g0 R R<|K.fieldAddr Y g0 R t201 R R<|K.load1 Y g0 R R t3 R R<|K.mv R R<|K.nilCheck g0 R R<|K.fieldAddr Y g0 R t201 R R<|K.load1 Y g0 R R t3 R R<|K.bin g0 R R (fun _=>R) R<|K.nil<|And.intro (by kernel_rfl)<|At.next<|G.cond R (fun h1=>?_) (fun h1=>?_)
  · exact absurd h1 (by simp [hh])
  ·
    refine G.skip<|At.ns<|G.ent [(0,_),(21,_),(22,_)] [(0,poolM 0 ⟨_,_,_,_,_⟩)] [] (pool_close _ _ _ _ _) ⟨R,R,R,trivial⟩ R R R R<|G.rg<|K.mv R R<|K.call0 [(.func 175,_),((.tmp 18),_)] (nextM _ hlen hfree) (toFn_func (cf 175 R) R) g0 ⟨R,R,trivial⟩ ⟨R,trivial⟩ R R R R R R<|K.as R R<|K.nil<|At.ns<|G.ent [(0,_)] [(0,_),(23,_),(24,_)] [23,24] (pool_open (by decide) (by decide) (by decide)) ⟨R,trivial⟩ R R R R<|G.rg<|K.mv R R<|K.nilCheck g0 R R<|K.fieldAddr Y g0 R t201 R R<|K.load1 Y g0 R R t199 R R<|K.mv R R<|K.idxL (lrowV 23 195 fCM 31 _) n (lrowV_is fCM_len (by decide)) hg hn g0 R R R Tryz.underlying199 el199.size_run R<|K.as R R<|K.nil<|At.nr<|K.mv R R<|K.mv R R<|K.loadS Y _ g0 R R t140 R R R<|K.nilL (lrowV 23 195 fCM 31 _) n 0 (lrowV_is fCM_len (by decide)) hg g0 R R R R<|K.fieldL Y (lrowV 23 195 fCM 31 _) n 0 0 (lrowV_is fCM_len (by decide)) hg g0 R R t195 R R R R<|K.storeL Y n 0 [_,_,_,_,_,_,_,_,_,_,_,_,_,_,_,_,_,_,_,_,_,_,_,_,_,_,_,_,_] { c with v:=v } fCM_len (by decide) hg g0 R R R t140 R R R R R R<|K.nilL (lrowV 23 195 fCM 31 _) n 0 (lrowV_is fCM_len (by decide)) (set_get hg) g0 R R R R<|K.fieldL Y (lrowV 23 195 fCM 31 _) n 0 30 (lrowV_is fCM_len (by decide)) (set_get hg) g0 R R t195 R R R R<|K.storeL Y n 30 [_] ⟨v,c.gen,true⟩ fCM_len (by decide) (set_get hg) g0 R R R t4 R R R R R R<|K.nil<|At.nr<|K.mv R R<|K.nilL (lrowV 23 195 fCM 31 _) n 0 (lrowV_is fCM_len (by decide)) (set_get (set_get hg)) g0 R R R R<|K.fieldL Y (lrowV 23 195 fCM 31 _) n 0 29 (lrowV_is fCM_len (by decide)) (set_get (set_get hg)) g0 R R t195 R R R R<|K.load1L Y (lrowV 23 195 fCM 31 _) n 29 (lrowV_is fCM_len (by decide)) (set_get (set_get hg)) g0 R R t3 R R<|K.bin g0 R R (fun _=>R) R<|K.nilL (lrowV 23 195 fCM 31 _) n 0 (lrowV_is fCM_len (by decide)) (set_get (set_get hg)) g0 R R R R<|K.fieldL Y (lrowV 23 195 fCM 31 _) n 0 29 (lrowV_is fCM_len (by decide)) (set_get (set_get hg)) g0 R R t195 R R R R<|K.storeL Y n 29 [_] ⟨v,IntKind.i64.wrap (c.gen+1),true⟩ fCM_len (by decide) (set_get (set_get hg)) g0 R R R t3 R R R R R R<|K.nil<|At.nr<|K.mv R R<|K.nilCheck g0 R R<|K.fieldAddr Y g0 R t201 R R<|K.load1 Y g0 R R t3 R R<|K.bin g0 R R (fun _=>R) R<|K.nilCheck g0 R R<|K.fieldAddr Y g0 R t201 R R<|K.store Y _ g0 R R R t3 R R R R R<|K.nil<|At.nr<|K.mv R R<|K.mv R R<|K.nilL (lrowV 23 195 fCM 31 _) n 0 (lrowV_is fCM_len (by decide)) (set_get (set_get (set_get hg))) g0 R R R R<|K.fieldL Y (lrowV 23 195 fCM 31 _) n 0 29 (lrowV_is fCM_len (by decide)) (set_get (set_get (set_get hg))) g0 R R t195 R R R R<|K.load1L Y (lrowV 23 195 fCM 31 _) n 29 (lrowV_is fCM_len (by decide)) (set_get (set_get (set_get hg))) g0 R R t3 R R<|K.build Y [(0,_),(1,_)] [_,_] [((.tmp 47),_),((.tmp 51),_)] g0 (AllE.spec ⟨R,R,trivial⟩) R R t119 R R<|K.store Y _ g0 R R R t119 R R R R R<|K.as R R<|K.nil<|At.next<|G.ret<|At.ent [(0,_),(23,_),(24,_)] [(0,poolM 0 ⟨_,_,_,_,_⟩)] [] (pool_close _ _ _ _ _) ⟨R,R,R,trivial⟩ R R R R<|At.done Y [(.cell 4 119,.agg [_,_]),(.tmp 5,.c _)] R ⟨.st R R t119 R R,.tmp R,trivial⟩ (to':=[(0,_)]) ⟨R,trivial⟩ ?_ ?_ R R R (.inl R)
    · simp [Pool.lay]
    · rw [hn];rfl
theorem newM_ (c:Int):SCon Tryz.prog 159 [SV.i c] [] (SV.p 107 0) [(107,poolM 107 ⟨[],[],capOf c,0,0⟩)] [107]:=by
  refine spec_of [(0,_)] [] 8 Tryz.func159 R Tryz.ntmps159 R R R R (fun β W F=>?_)
  refine G.seq<|G.rg<|K.as R R<|K.nil<|At.nr<|K.mv R R<|K.bi2 g0 R R (fun _ _=>R) R<|K.bi2 g0 R R (fun _ _=>R) R<|K.build Y [(2,_)] [_,_,_,_,_] [((.tmp 5),_)] g0 (AllE.spec ⟨R,trivial⟩) R R t201 R R<|K.box Y 107 _ g0 R R R R R R<|K.as R R<|K.nil<|At.next<|G.ret<|At.ent [(107,_)] [(107,poolM 107 ⟨_,_,_,_,_⟩)] [] (pool_nil _ _ _) ⟨R,trivial⟩ R R R R<|At.done Y [(.tmp 2,.c _)] R ⟨.tmp R,trivial⟩ (to':=[(107,_)]) ⟨R,trivial⟩ ?_ ?_ R R R (.inl R)
  · rfl
  · rfl
theorem newM (c:Int) (k:Nat):SCon Tryz.prog 159 [SV.i c] [] (SV.p k 0) [(k,poolM k ⟨[],[],capOf c,0,0⟩)] [k] :=
  SCon.ren (rn [(107,k)]) (newM_ c) trivial ⟨pool_ren R,trivial⟩ (by simp) (by intro j hj hn;simp [SV.ks,Av.ks,Cl.ks,pool] at hj hn;exact absurd hj hn)
theorem putM_ {N:Nat} (p:Pool (TNode TMark TSwell)) (v:(TNode TMark TSwell)) (h:PoolOk N p) (hN:N<4294967296):SCon Tryz.prog 163 [SV.p 0 0,.a (avM v)] [(0,poolM 0 p)] (.tup [.agg [.i (p.put zNodeM v).1.1.1,.i (p.put zNodeM v).1.1.2],.c (.b (p.put zNodeM v).1.2)]) [(0,poolM 0 (p.put zNodeM v).2)] []:=by
  by_cases hh:p.held=p.cap
  · have e:p.put zNodeM v=(((0,0),false),p):=by unfold Pool.put;rw [if_pos hh]
    rw [e];exact putFM p v hh
  · obtain ⟨h1,h2,c,hc⟩:=h.next (z:=zNodeM)
    have e:p.put zNodeM v=((((p.next zNodeM).1,IntKind.i64.wrap (c.gen+1)),true),(p.next zNodeM).2.lay (p.next zNodeM).1.toNat c v):=by unfold Pool.put;rw [if_neg hh,hc]
    have h3:(p.next zNodeM).1=((p.next zNodeM).1.toNat:Int):=by omega
    have:=putTM p v hh (Nat.lt_of_le_of_lt h.cells hN) (Nat.lt_of_le_of_lt h.free hN) h3 hc
    rw [← h3] at this
    rw [e];exact this
theorem putM {N:Nat} (p:Pool (TNode TMark TSwell)) (v:(TNode TMark TSwell)) (h:PoolOk N p) (hN:N<4294967296) (k:Nat):SCon Tryz.prog 163 [SV.p k 0,.a (avM v)] [(k,poolM k p)] (.tup [.agg [.i (p.put zNodeM v).1.1.1,.i (p.put zNodeM v).1.1.2],.c (.b (p.put zNodeM v).1.2)]) [(k,poolM k (p.put zNodeM v).2)] [] :=
  SCon.ren (rn [(0,k)]) (putM_ p v h hN) ⟨pool_ren R,trivial⟩ ⟨pool_ren R,trivial⟩ (by simp) (by simp)
theorem getM' {N:Nat} (p:Pool (TNode TMark TSwell)) (i g:Int) (h:PoolOk N p) (hN:N<4294967296) (k:Nat):SCon Tryz.prog 113 [SV.p k 0,SV.agg [.i i,.i g]] [(k,poolM k p)] (.tup [avM (p.get zNodeM i g).1.1,.c (.b (p.get zNodeM i g).1.2)]) [(k,poolM k (p.get zNodeM i g).2)] [] :=
  SCon.ren (rn [(0,k)]) (getM p i g (Nat.lt_of_le_of_lt h.cells hN) (Nat.lt_of_le_of_lt h.free hN)) ⟨pool_ren R,trivial⟩ ⟨pool_ren R,trivial⟩ (by simp) (by simp)
theorem setM' {N:Nat} (p:Pool (TNode TMark TSwell)) (i g:Int) (v:(TNode TMark TSwell)) (h:PoolOk N p) (hN:N<4294967296) (k:Nat):SCon Tryz.prog 164 [SV.p k 0,SV.agg [.i i,.i g],.a (avM v)] [(k,poolM k p)] (SV.b (p.set i g v).1) [(k,poolM k (p.set i g v).2)] [] :=
  SCon.ren (rn [(0,k)]) (setM p i g v (Nat.lt_of_le_of_lt h.cells hN) (Nat.lt_of_le_of_lt h.free hN)) ⟨pool_ren R,trivial⟩ ⟨pool_ren R,trivial⟩ (by simp) (by simp)
theorem dropM' {N:Nat} (p:Pool (TNode TMark TSwell)) (i g:Int) (h:PoolOk N p) (hN:N<4294967296) (k:Nat):SCon Tryz.prog 119 [SV.p k 0,SV.agg [.i i,.i g]] [(k,poolM k p)] (.tup [avM (p.drop zNodeM i g).1.1,.c (.b (p.drop zNodeM i g).1.2)]) [(k,poolM k (p.drop zNodeM i g).2)] [] :=
  SCon.ren (rn [(0,k)]) (dropM p i g (Nat.lt_of_le_of_lt h.cells hN) (Nat.lt_of_le_of_lt h.free hN)) ⟨pool_ren R,trivial⟩ ⟨pool_ren R,trivial⟩ (by simp) (by simp)
end Go.Proofs.YtgjbibabegabnaaGreat
