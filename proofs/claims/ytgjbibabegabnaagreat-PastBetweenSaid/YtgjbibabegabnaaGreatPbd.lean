/- My texts that the proof of PastBetween rests on, part 4: a calculus of walks, the walks, and the plain law. -/
import Derived.KernelRfl
import Derived.Test.YtgjbibabegabnaaGreatPbc
set_option linter.unusedVariables false
set_option linter.unusedSimpArgs false
namespace Go.Proofs.YtgjbibabegabnaaGreat
open Go Go.Proofs.YtgjbibabegabnaaGreat.Sx
def payI (A0:List (Nat→Nat)) (i:Nat) (v:Value):Res:=pureRes (v=ptr (hA A0 ⟨i,1⟩) 0)
theorem hA_pre {A0 A:List (Nat→Nat)} {e:THp} (hp:A0 <+: A) (h:e.q<A0.length):hA A e=hA A0 e:=by
  obtain ⟨B,rfl⟩:=hp
  simp [hA,List.getD_eq_getElem?_getD,List.getElem?_append_left h]
theorem payI_op {A0 A:List (Nat→Nat)} {i:Nat} (hp:A0 <+: A) (h:i<A0.length):Pay (payI A0) i [] (.v (ptr (hA A ⟨i,1⟩) 0)) [] where
  op:=by
    rintro β w F v ⟨hF,hv⟩
    exact ⟨β,fun _ _=>R,hF,by rw [hA_pre hp h];exact hv.symm⟩
theorem payI_cl {A0 A:List (Nat→Nat)} {i:Nat} (hp:A0 <+: A) (h:i<A0.length):PayC (payI A0) i [] (.v (ptr (hA A ⟨i,1⟩) 0)) where
  cl:=by
    intro β w F hF
    refine ⟨hF,?_⟩
    show ptr (hA A ⟨i,1⟩) 0=_
    rw [hA_pre hp h]
theorem Sx.Ent.refl (l:List (Nat×Tok)):Ent l l []:=fun β w F h=>⟨β,fun _ _=>rfl,F,fun _ h=>h,h⟩
def pkV (k:Nat) (A0:List (Nat→Nat)) (Q0:List TQueue) (T s:Nat) (Q:List TQueue) (l:List TPart):Tok where
  ks:=[k]
  r β:=exR fun A:List (Nat→Nat)=>starRes [pureRes (A0 <+: A∧A.length=Q.length∧Q0 <+: Q),starRes (hpL tq A Q),(lrow k T (eTPart A) s l).r β]
  sup h:=by
    congr 1
    funext A
    rw [(lrow k T (eTPart A) s l).sup (fun j hj=>h j hj)]
theorem pkV_ren {f:Nat→Nat} {k k':Nat} {A0:List (Nat→Nat)} {Q0:List TQueue} {T s:Nat} {Q:List TQueue} {l:List TPart} (h:f k'=k):RenT f (pkV k' A0 Q0 T s Q l) (pkV k A0 Q0 T s Q l):=by
  subst h;intro β;rfl
theorem pk_in {A0 A:List (Nat→Nat)} {T s:Nat} {Q0 Q:List TQueue} {l:List TPart} (kh k:Nat) (hpre:A0 <+: A) (hL:A.length=Q.length) (hqp:Q0 <+: Q):Ent [(kh,hp kh tq A Q),(k,lrow k T (eTPart A) s l)] [(k,pkV k A0 Q0 T s Q l)] []:=by
  rintro β w F ⟨F1,F2,e,d,h1,h2⟩
  exact ⟨β,fun _ _=>R,F,fun _ h=>h,Star_one.2 ⟨A,Star_pure.2 ⟨⟨hpre,hL,hqp⟩,F1,F2,e,d,h1,h2⟩⟩⟩
theorem prefix_grow {A0 A:List (Nat→Nat)} (h:A0 <+: A) (a:Nat→Nat):A0 <+: A++[a]:=h.trans (List.prefix_append _ _)
theorem tq_late1 {P : Program} {f : FuncId} {args : List SV} {ret : SV} {fr : List Nat} {S : Foot} {w : World} {A : List (Nat → Nat)} {Q : List TQueue} {n0 n1 n2 n3 n4 n5 n6 n7 n8 : Nat} {q : TQueue} {b : Nat × Tok} (k : Nat) (hAQ : A.length = Q.length) (h : SCon P f args ((0, rd S w) :: [b]) ret ((0, rd S w) :: b :: tkQueue n0 n1 n2 n3 n4 n5 n6 n7 n8 q []) fr) :
    SCon P f args ((0,rd S w)::[b,(k,hp k tq A Q)]) ret ((0,rd S w)::[b,(k,hpN k tq A Q qks (gN [n0,n1,n2,n3,n4,n5,n6,n7,n8]) q)]) fr:=by
  have h1:=h.frame [(k,hp k tq A Q)] (fun p hp j hj=>by
    cases hp with
    | head => cases hj
    | tail _ h => cases h)
  refine h1.post (fun β w' F hs=>?_)
  obtain ⟨F1,F2,e,d,g1,F3,F4,e',d',g3,g4⟩:=hs
  refine ⟨F1,F2,e,d,g1,F3,F4,e',d',g3,?_⟩
  have g4':Star ((tkQueue n0 n1 n2 n3 n4 n5 n6 n7 n8 q []++[(k,hp k tq A Q)]).map fun p=>p.2.r β) w' F4:=g4
  have g5:=Star_perm ((List.perm_append_comm).map (fun p:Nat×Tok=>p.2.r β)) g4'
  exact hp_addS (k:=k) (tn:=tkQueue n0 n1 n2 n3 n4 n5 n6 n7 n8 q []) (q:=q) qks (gN [n0,n1,n2,n3,n4,n5,n6,n7,n8]) hAQ β (tq_at n0 n1 n2 n3 n4 n5 n6 n7 n8 q β) g5
end Go.Proofs.YtgjbibabegabnaaGreat
namespace Go.Proofs.YtgjbibabegabnaaGreat
open Go Go.Proofs.YtgjbibabegabnaaGreat.Sx
section
variable {ω:Type}
theorem hpL_app {A B:List (Nat→Nat)} {Q1 Q2:List TQueue} (h:A.length=Q1.length):hpL tq (A++B) (Q1++Q2)=hpL tq A Q1++hpL tq B Q2:=by
  unfold hpL
  exact List.zipWith_append h
variable {enc:ω→List Value} {T:TypeId}
theorem expose_res : ∀ (t:PT ω TQueue) {v:Value} {w:World} {F:Foot},(ptRes enc payQ T t v).holds w F→∃ A:List (Nat→Nat),A.length=(pQ t).length∧∀ pre post:List (Nat→Nat),Star (ptRes enc (payI (pre++A++post)) T (pI pre.length t) v::hpL tq A (pQ t)) w F
  | .nil, v, w, F, h => ⟨[], rfl, fun pre post => Star_one.2 h⟩
  | .node o g l r n q, v, w, F, h => by
    obtain ⟨z,hz⟩:=h
    obtain ⟨hv,F1,F2,e1,d1,hb,F3,F4,e2,d2,hl,F5,F6,e3,d3,hr,hq⟩:=Star_pure.1 hz
    obtain ⟨a,ha⟩:=Star_one.1 hq
    obtain ⟨ha1,ha2⟩:=Star_pure.1 ha
    have ha2:=Star_one.1 ha2
    obtain ⟨A1,l1,h1⟩:=expose_res l hl
    obtain ⟨A2,l2,h2⟩:=expose_res r hr
    refine ⟨a::(A1++A2),by simp [pQ,l1,l2],fun pre post=>?_⟩
    have e5:pre++a::(A1++A2)++post=(pre++[a])++A1++(A2++post):=by simp
    have e6:pre++a::(A1++A2)++post=(pre++[a]++A1)++A2++post:=by simp
    have g1:=h1 (pre++[a]) (A2++post)
    have g2:=h2 (pre++[a]++A1) post
    rw [← e5] at g1
    rw [← e6] at g2
    generalize hX:pre++a::(A1++A2)++post=X at g1 g2 ⊢
    have n1:(pre++[a]).length=pre.length+1:=by simp
    have n2:(pre++[a]++A1).length=pre.length+1+(pQ l).length:=by simp [l1];omega
    rw [n1] at g1
    rw [n2] at g2
    have hpos:hA X ⟨pre.length,1⟩=a 1:=by
      rw [← hX];simp [hA,List.getD_eq_getElem?_getD]
    -- all parts side by side
    have all:Star ((blkRes z.1 (enc o++[.bool g,one1 z.2.1,one1 z.2.2.1,.int .i64 n,z.2.2.2]) T)::((ptRes enc (payI X) T (pI (pre.length+1) l) (one1 z.2.1)::hpL tq A1 (pQ l))++((ptRes enc (payI X) T (pI (pre.length+1+(pQ l).length) r) (one1 z.2.2.1)::hpL tq A2 (pQ r))++[eltRes (tq q) a]))) w F:=by
      refine ⟨F1,F2,e1,d1,hb,?_⟩
      refine Star_append.2 ⟨F3,F4,e2,d2,g1,?_⟩
      exact Star_append.2 ⟨F5,F6,e3,d3,g2,Star_one.2 ha2⟩
    have want:Star ([blkRes z.1 (enc o++[.bool g,one1 z.2.1,one1 z.2.2.1,.int .i64 n,z.2.2.2]) T,ptRes enc (payI X) T (pI (pre.length+1) l) (one1 z.2.1),ptRes enc (payI X) T (pI (pre.length+1+(pQ l).length) r) (one1 z.2.2.1)]++(eltRes (tq q) a::(hpL tq A1 (pQ l)++hpL tq A2 (pQ r)))) w F:=by
      refine Star_perm ?_ all
      refine List.Perm.cons _ (List.Perm.cons _ ?_)
      generalize hpL tq A1 (pQ l)=L1
      generalize hpL tq A2 (pQ r)=L2
      have p1 : ∀ (x y:Res),(L1++(x::L2++[y])).Perm ([x]++(y::(L1++L2))):=fun x y=>by
        have q1:(L1++(x::(L2++[y]))).Perm (x::(L1++(L2++[y]))):=List.perm_middle
        refine q1.trans (List.Perm.cons x ?_)
        rw [← List.append_assoc]
        exact List.perm_append_comm
      exact p1 _ _
    obtain ⟨G1,G2,e7,d7,hA1,hA2⟩:=Star_append.1 want
    have ez:hpL tq (a::(A1++A2)) (pQ (.node o g l r n q))=eltRes (tq q) a::(hpL tq A1 (pQ l)++hpL tq A2 (pQ r)):=by
      show eltRes (tq q) a::hpL tq (A1++A2) (pQ l++pQ r)=_
      rw [hpL_app l1]
    rw [ez]
    refine ⟨G1,G2,e7,d7,⟨z,Star_pure.2 ⟨hv,?_⟩⟩,hA2⟩
    obtain ⟨K1,K2,k1,k2,k3,K3,K4,k4,k5,k6,k7⟩:=hA1
    refine ⟨K1,K2,k1,k2,k3,K3,K4,k4,k5,k6,?_⟩
    have k8:=Star_one.1 k7
    exact ⟨K4,fun _=>False,fun b=>by simp,fun _ _ h=>h,k8,Star_one.2 ⟨fun _ h=>h,by rw [hpos];exact ha1⟩⟩
theorem unexpose_res : ∀ (t:PT ω TQueue) {v:Value} {w:World} {F:Foot} (pre A post:List (Nat→Nat)),A.length=(pQ t).length→Star (ptRes enc (payI (pre++A++post)) T (pI pre.length t) v::hpL tq A (pQ t)) w F→(ptRes enc payQ T t v).holds w F
  | .nil, v, w, F, pre, A, post, hAl, h => by
    have:A=[]:=List.eq_nil_of_length_eq_zero hAl
    subst this
    exact Star_one.1 h
  | .node o g l r n q, v, w, F, pre, [], post, hAl, h => by simp [pQ] at hAl
  | .node o g l r n q, v, w, F, pre, a :: B, post, hAl, h => by
    have hB:B.length=(pQ l).length+(pQ r).length:=by simpa [pQ] using hAl
    obtain ⟨A1,A2,rfl,l1⟩ : ∃ A1 A2,B=A1++A2∧A1.length=(pQ l).length:=⟨B.take (pQ l).length,B.drop (pQ l).length,(List.take_append_drop _ _).symm,by rw [List.length_take];omega⟩
    have l2:A2.length=(pQ r).length:=by rw [List.length_append] at hB;omega
    have ez:hpL tq (a::(A1++A2)) (pQ (.node o g l r n q))=eltRes (tq q) a::(hpL tq A1 (pQ l)++hpL tq A2 (pQ r)):=by
      show eltRes (tq q) a::hpL tq (A1++A2) (pQ l++pQ r)=_
      rw [hpL_app l1]
    rw [ez] at h
    obtain ⟨G1,G2,e7,d7,⟨z,hz⟩,hA2⟩:=h
    obtain ⟨hv,K1,K2,k1,k2,hb,K3,K4,k4,k5,hl,K5,K6,k6,k7,hr,hq⟩:=Star_pure.1 hz
    have hq:=(Star_one.1 hq)
    have e5:pre++a::(A1++A2)++post=(pre++[a])++A1++(A2++post):=by simp
    have e6:pre++a::(A1++A2)++post=(pre++[a]++A1)++A2++post:=by simp
    have n1:(pre++[a]).length=pre.length+1:=by simp
    have n2:(pre++[a]++A1).length=pre.length+1+(pQ l).length:=by simp [l1];omega
    have ih1:=fun {v w F}=>unexpose_res l (v:=v) (w:=w) (F:=F) (pre++[a]) A1 (A2++post) l1
    have ih2:=fun {v w F}=>unexpose_res r (v:=v) (w:=w) (F:=F) (pre++[a]++A1) A2 post l2
    rw [← e5,n1] at ih1
    rw [← e6,n2] at ih2
    have hpos:hA (pre++a::(A1++A2)++post) ⟨pre.length,1⟩=a 1:=by simp [hA,List.getD_eq_getElem?_getD]
    have hqv:z.2.2.2=ptr (a 1) 0:=by rw [← hpos];exact hq.2
    generalize pre++a::(A1++A2)++post=X at *
    have hK6 : ∀ b,¬ K6 b:=hq.1
    have all:Star ([blkRes z.1 (enc o++[.bool g,one1 z.2.1,one1 z.2.2.1,.int .i64 n,z.2.2.2]) T,ptRes enc (payI X) T (pI (pre.length+1) l) (one1 z.2.1),ptRes enc (payI X) T (pI (pre.length+1+(pQ l).length) r) (one1 z.2.2.1)]++(eltRes (tq q) a::(hpL tq A1 (pQ l)++hpL tq A2 (pQ r)))) w F:=by
      refine Star_append.2 ⟨G1,G2,e7,d7,⟨K1,K2,k1,k2,hb,K3,K4,k4,k5,hl,?_⟩,hA2⟩
      have:K4=K5:=funext fun b=>propext (by rw [k6 b];exact ⟨fun h=>h.elim id (fun h'=>absurd h' (hK6 b)),.inl⟩)
      rw [this];exact Star_one.2 hr
    have want:Star ((blkRes z.1 (enc o++[.bool g,one1 z.2.1,one1 z.2.2.1,.int .i64 n,z.2.2.2]) T)::((ptRes enc (payI X) T (pI (pre.length+1) l) (one1 z.2.1)::hpL tq A1 (pQ l))++((ptRes enc (payI X) T (pI (pre.length+1+(pQ l).length) r) (one1 z.2.2.1)::hpL tq A2 (pQ r))++[eltRes (tq q) a]))) w F:=by
      refine Star_perm ?_ all
      refine List.Perm.cons _ (List.Perm.cons _ ?_)
      generalize hpL tq A1 (pQ l)=L1
      generalize hpL tq A2 (pQ r)=L2
      have p1 : ∀ (x y:Res),(L1++(x::L2++[y])).Perm ([x]++(y::(L1++L2))):=fun x y=>by
        have q1:(L1++(x::(L2++[y]))).Perm (x::(L1++(L2++[y]))):=List.perm_middle
        refine q1.trans (List.Perm.cons x ?_)
        rw [← List.append_assoc]
        exact List.perm_append_comm
      exact (p1 _ _).symm
    obtain ⟨F1,F2,f1,f2,hb',h8⟩:=want
    obtain ⟨F3,F4,f3,f4,h9,h10⟩:=Star_append.1 h8
    obtain ⟨F5,F6,f5,f6,h11,h12⟩:=Star_append.1 h10
    exact ⟨z,Star_pure.2 ⟨hv,F1,F2,f1,f2,hb',F3,F4,f3,f4,ih1 h9,F5,F6,f5,f6,ih2 h11,Star_one.2 ⟨a,Star_pure.2 ⟨hqv,h12⟩⟩⟩⟩
end
def ptIn {ω:Type} (n:Nat):PT ω Nat→Prop
  | .nil => True
  | .node _ _ l r _ i => i < n ∧ ptIn n l ∧ ptIn n r
theorem pI_in {ω:Type} : ∀ (t:PT ω TQueue) (i n:Nat),i+(pQ t).length≤n→ptIn n (pI i t)
  | .nil, _, _, _ => trivial
  | .node o g l r m q, i, n, h => by
    have h':i+((pQ l).length+(pQ r).length+1)≤n:=by simpa [pQ] using h
    exact ⟨by omega,pI_in l (i+1) n (by omega),pI_in r (i+1+(pQ l).length) n (by omega)⟩
theorem pt_up {ω:Type} {enc:ω→List Value} {T:TypeId} {A A':List (Nat→Nat)} (hp:A <+: A') : ∀ {t:PT ω Nat} {v:Value},ptIn A.length t→ptRes enc (payI A) T t v=ptRes enc (payI A') T t v
  | .nil, v, _ => rfl
  | .node o g l r n i, v, h => by
    have e1 : ∀ u,payI A i u=payI A' i u:=fun u=>by
      unfold payI
      rw [hA_pre hp h.1]
    show exR _=exR _
    congr 1
    funext z
    rw [pt_up hp h.2.1,pt_up hp h.2.2,e1]
theorem eT_up {A A':List (Nat→Nat)} (hp:A <+: A') {x:TPart} (h:x.shelf.q<A.length):eTPart A x=eTPart A' x:=by
  unfold eTPart
  rw [hA_pre hp h]
theorem lrow_up {k T s:Nat} {A A':List (Nat→Nat)} (hp:A <+: A') {l:List TPart} (h:partsIn A.length l=true):lrow k T (eTPart A) s l=lrow k T (eTPart A') s l :=
  lrow_grow (fun x hx=>eT_up hp (by simpa using List.all_eq_true.1 h x hx))
def pkR (A:List (Nat→Nat)) (T s:Nat) (rows:List (Nat×List TPart)):List (Nat×Tok):=rows.map fun p=>(p.1,lrow p.1 T (eTPart A) s p.2)
def pkT (kr TN:Nat) (t:PT TOp TQueue) (T s:Nat) (Q:List TQueue) (rows:List (Nat×List TPart)):Tok where
  ks:=kr::rows.map (·.1)
  r β:=exR fun A:List (Nat→Nat)=>starRes (pureRes (A.length=Q.length∧pQ t <+: Q)::ptRes eTOp (payI A) TN (pI 0 t) (one1 (β kr).v)::starRes (hpL tq A Q)::((pkR A T s rows).map fun p=>p.2.r β))
  sup h:=by
    rename_i β β'
    congr 1
    funext A
    have e:((pkR A T s rows).map fun p=>p.2.r β)=(pkR A T s rows).map fun p=>p.2.r β':=List.map_congr_left (fun p hp=>p.2.sup (fun j hj=>h j (by
      obtain ⟨q,hq,rfl⟩:=List.mem_map.1 hp
      have:j=q.1:=by simpa [lrow,row] using hj
      subst this
      exact List.mem_cons_of_mem _ (List.mem_map_of_mem hq))))
    rw [h kr List.mem_cons_self,e]
theorem pk_open {kr TN:Nat} {t:PT TOp TQueue} {T s:Nat} (id:Nat):Ent [(kr,ptT eTOp payQ TN kr t)] [(id,pkT kr TN t T s (pQ t) [])] []:=by
  intro β w F h
  obtain ⟨A,h1,h2⟩:=expose_res t (Star_one.1 h)
  have h3:=h2 [] []
  simp only [List.nil_append,List.append_nil,List.length_nil] at h3
  refine ⟨β,fun _ _=>R,F,fun _ h=>h,Star_one.2 ⟨A,Star_pure.2 ⟨⟨h1,List.prefix_refl _⟩,?_⟩⟩⟩
  obtain ⟨F1,F2,e,d,g1,g2⟩:=h3
  exact ⟨F1,F2,e,d,g1,Star_one.2 g2⟩
theorem pk_close {kr TN:Nat} {t:PT TOp TQueue} {T s:Nat} {Q:List TQueue} {rows:List (Nat×List TPart)} (id:Nat):Ent [(id,pkT kr TN t T s Q rows)] [(kr,ptT eTOp payQ TN kr t)] []:=by
  intro β w F h
  obtain ⟨A,h1⟩:=Star_one.1 h
  obtain ⟨⟨hA,B,hB⟩,F1,F2,e,d,g1,F3,F4,e',d',g2,g3⟩:=Star_pure.1 h1
  subst hB
  have hA':A.length=(pQ t).length+B.length:=by rw [hA,List.length_append]
  obtain ⟨A1,A2,rfl,l1⟩ : ∃ A1 A2,A=A1++A2∧A1.length=(pQ t).length:=⟨A.take (pQ t).length,A.drop (pQ t).length,(List.take_append_drop _ _).symm,by rw [List.length_take];omega⟩
  have g2':Star (hpL tq (A1++A2) (pQ t++B)) w F3:=g2
  rw [hpL_app l1] at g2'
  obtain ⟨K1,K2,k1,k2,k3,k4⟩:=Star_append.1 g2'
  refine ⟨β,fun _ _=>R,fun b=>F1 b∨K1 b,fun b hb=>(e b).2 (hb.imp (fun h=>h) (fun h=>(e' b).2 (.inl ((k1 b).2 (.inl h))))),Star_one.2 (unexpose_res t [] A1 A2 l1 ?_)⟩
  exact ⟨F1,K1,fun b=>Iff.rfl,fun b h1 h2=>d b h1 ((e' b).2 (.inl ((k1 b).2 (.inl h2)))),g1,k3⟩
theorem SCon.view {P : Program} {f : FuncId} {args : List SV} {ret : SV} {kb kr TN k T s : Nat} {bt : Tok} {t : PT TOp TQueue} {Q Q' : List TQueue} {rows : List (Nat × List TPart)} {parts : List TPart} (id : Nat) (hin : rows.all (fun p => partsIn Q.length p.2) = true)
    (h : ∀ A:List (Nat→Nat),A.length=Q.length→SCon P f args [(19,hp 19 tq A Q),(kb,bt),(kr,ptT eTOp (payI A) TN kr (pI 0 t))] ret [(kb,bt),(kr,ptT eTOp (payI A) TN kr (pI 0 t)),(k,pkV k A Q T s Q' parts)] [k])
    (hne:rows.all (fun p=>!Nat.beq p.1 k)=true):SCon P f args [(kb,bt),(id,pkT kr TN t T s Q rows)] ret [(kb,bt),(id,pkT kr TN t T s Q' (rows++[(k,parts)]))] [k]:=by
  rintro β w F ⟨F1,F2,e1,d1,hb,hpk⟩
  obtain ⟨A,h1⟩:=Star_one.1 hpk
  obtain ⟨⟨hA,hQ⟩,F3,F4,e2,d2,htr,F5,F6,e3,d3,hhp,hrows⟩:=Star_pure.1 h1
  have con:=(h A hA).frame (pkR A T s rows) (fun p hp j hj=>by
    obtain ⟨q,hq,rfl⟩:=List.mem_map.1 hp
    have:j=q.1:=by simpa [lrow,row] using hj
    subst this
    have h9:=List.all_eq_true.1 hne q hq
    intro hm
    rw [List.mem_singleton] at hm
    rw [hm,Nat.beq_refl] at h9;cases h9)
  have hin':Star ((([(19,hp 19 tq A Q),(kb,bt),(kr,ptT eTOp (payI A) TN kr (pI 0 t))]++pkR A T s rows).map fun p=>p.2.r β)) w F:=by
    have a1:Star ((bt.r β)::(ptRes eTOp (payI A) TN (pI 0 t) (one1 (β kr).v))::(starRes (hpL tq A Q))::((pkR A T s rows).map fun p=>p.2.r β)) w F:=⟨F1,F2,e1,d1,hb,F3,F4,e2,d2,htr,F5,F6,e3,d3,hhp,hrows⟩
    refine Star_perm ?_ a1
    rw [List.map_append]
    exact ((List.Perm.swap _ _ _).cons _).trans (List.Perm.swap _ _ _)
  refine (con β w F hin').mono (fun en w' he=>?_)
  obtain ⟨β',hβ,rfl,F',h2,h3,h4⟩:=he
  refine ⟨β',hβ,R,F',?_,h3,h4⟩
  rw [List.map_append] at h2
  obtain ⟨G1,G2,g1,g2,⟨G3,G4,g3,g4,gb,G5,G6,g5,g6,gt,gpk⟩,grows⟩:=Star_append.1 h2
  obtain ⟨A',h5⟩:=Star_one.1 gpk
  obtain ⟨⟨hAA,hA',hQQ⟩,G7,G8,g7,g8,gh,grow⟩:=Star_pure.1 h5
  have grow:=Star_one.1 grow
  have etr:ptRes eTOp (payI A) TN (pI 0 t) (one1 (β' kr).v)=ptRes eTOp (payI A') TN (pI 0 t) (one1 (β' kr).v):=pt_up hAA (pI_in t 0 _ (by rw [hA,Nat.zero_add];exact hQ.length_le))
  have erows:pkR A T s rows=pkR A' T s rows:=List.map_congr_left (fun p hp=>by
    rw [lrow_up hAA (by rw [hA];exact List.all_eq_true.1 hin p hp)])
  have gt':(ptRes eTOp (payI A) TN (pI 0 t) (one1 (β' kr).v)).holds w' G5:=gt
  rw [etr] at gt'
  rw [erows] at grows
  have fin:Star ((bt.r β')::(ptRes eTOp (payI A') TN (pI 0 t) (one1 (β' kr).v))::(starRes (hpL tq A' Q'))::((pkR A' T s (rows++[(k,parts)])).map fun p=>p.2.r β')) w' F':=by
    have e9:((pkR A' T s (rows++[(k,parts)])).map fun p=>p.2.r β')=((pkR A' T s rows).map fun p=>p.2.r β')++[(lrow k T (eTPart A') s parts).r β']:=by
      simp [pkR]
    rw [e9]
    have a2:Star ([bt.r β',ptRes eTOp (payI A') TN (pI 0 t) (one1 (β' kr).v),starRes (hpL tq A' Q'),(lrow k T (eTPart A') s parts).r β']++((pkR A' T s rows).map fun p=>p.2.r β')) w' F' :=
      Star_append.2 ⟨G1,G2,g1,g2,⟨G3,G4,g3,g4,gb,G5,G6,g5,g6,gt',G7,G8,g7,g8,gh,Star_one.2 grow⟩,grows⟩
    refine Star_perm ?_ a2
    refine List.Perm.cons _ (List.Perm.cons _ (List.Perm.cons _ ?_))
    exact List.perm_append_comm (l₁:=[_])
  obtain ⟨K1,K2,k1,k2,kb',krest⟩:=fin
  exact ⟨K1,K2,k1,k2,kb',Star_one.2 ⟨A',Star_pure.2 ⟨⟨hA',hQ.trans hQQ⟩,krest⟩⟩⟩
theorem SCon.views {P : Program} {f : FuncId} {args' : List SV} {args : Value → List SV} {ret : SV} {kr TN k T s : Nat} {t : PT TOp TQueue} {Q : List TQueue} {R1 R2 : List (Nat × List TPart)} {parts : List TPart} {add : List (Nat × Tok)} {fr : List Nat} (id hid : Nat)
    (h : ∀ (A:List (Nat→Nat)) (S:Foot) (W0:World) (v:Value),A.length=Q.length→LArg S W0 v (eTPart A) s parts→SCon P f (args v) [(0,rd S W0),(hid,hp hid tq A Q)] ret ((0,rd S W0)::(hid,hp hid tq A Q)::add) fr)
    (hs:Nat.blt 0 s=true) (hlen : ∀ (A:List (Nat→Nat)) x,(eTPart A x).length=s)
    (ha : ∀ β:Env,(args (one1 (β k).v)).map (SV.den β)=args'.map (SV.den β))
    (hfr:(kr::(R1++(k,parts)::R2).map (·.1)).all (fun j=>!fr.contains j)=true):SCon P f args' [(id,pkT kr TN t T s Q (R1++(k,parts)::R2))] ret ((id,pkT kr TN t T s Q (R1++(k,parts)::R2))::add) fr:=by
  intro β w F hpk
  have hfr' : ∀ j∈kr::(R1++(k,parts)::R2).map (·.1),j∉fr:=fun j hj hm=>by
    have:=List.all_eq_true.1 hfr j hj
    simp only [Bool.not_eq_true',List.contains_eq_mem,decide_eq_false_iff_not] at this
    exact this hm
  obtain ⟨A,h1⟩:=Star_one.1 hpk
  obtain ⟨⟨hA,hQ⟩,hS⟩:=Star_pure.1 h1
  have erow : ∀ γ:Env,((pkR A T s (R1++(k,parts)::R2)).map fun p=>p.2.r γ)=((pkR A T s R1).map fun p=>p.2.r γ)++(lrow k T (eTPart A) s parts).r γ::((pkR A T s R2).map fun p=>p.2.r γ):=fun γ=>by simp [pkR]
  rw [erow] at hS
  let ex:List (Nat×Tok):=(kr,ptT eTOp (payI A) TN kr (pI 0 t))::(pkR A T s R1++pkR A T s R2)
  have hex : ∀ p∈ex,∀ j∈p.2.ks,j∉fr:=fun p hp j hj=>by
    rcases List.mem_cons.1 hp with rfl | hp
    · have:j=kr:=by simpa [ptT] using hj
      subst this;exact hfr' _ List.mem_cons_self
    · have : ∃ q ∈ R1 ++ (k, parts) :: R2, j = q.1 := by
        rcases List.mem_append.1 hp with hp | hp
        · obtain ⟨q,hq,rfl⟩:=List.mem_map.1 hp
          exact ⟨q,List.mem_append_left _ hq,by simpa [lrow,row] using hj⟩
        · obtain ⟨q,hq,rfl⟩:=List.mem_map.1 hp
          exact ⟨q,List.mem_append_right _ (List.mem_cons_of_mem _ hq),by simpa [lrow,row] using hj⟩
      obtain ⟨q,hq,rfl⟩:=this
      exact hfr' _ (List.mem_cons_of_mem _ (List.mem_map_of_mem hq))
  have eex : ∀ γ:Env,(ex.map fun p=>p.2.r γ)=ptRes eTOp (payI A) TN (pI 0 t) (one1 (γ kr).v)::(((pkR A T s R1).map fun p=>p.2.r γ)++((pkR A T s R2).map fun p=>p.2.r γ)):=fun γ=>by
    show _::((pkR A T s R1++pkR A T s R2).map _)=_
    rw [List.map_append];rfl
  have pm : ∀ (x y z:Res) (L1 L2:List Res),(x::y::(L1++z::L2)).Perm (z::y::x::(L1++L2)):=fun x y z L1 L2=>by
    have q1:(L1++z::L2).Perm (z::(L1++L2)):=List.perm_middle
    refine ((q1.cons y).cons x).trans ?_
    have q2:([x,y]++z::(L1++L2)).Perm (z::([x,y]++(L1++L2))):=List.perm_middle
    exact q2.trans ((List.Perm.swap y x _).cons z)
  obtain ⟨S,F2,e1,d1,hrow,F3,F4,e2,d2,hhp,hrest⟩:=Star_perm (pm _ _ _ _ _) hS
  have larg:LArg S w (one1 (β k).v) (eTPart A) s parts:=la (tr:=[(k,lrow k T (eTPart A) s parts)]) (β:=β) 0 rfl (hlen A) hs (Star_one.2 hrow)
  have con:=(h A S w (one1 (β k).v) hA larg).frame ex hex
  have hin:Star ((([(0,rd S w),(hid,hp hid tq A Q)]++ex).map fun p=>p.2.r β)) w F:=by
    rw [List.map_append,eex]
    exact ⟨S,F2,e1,d1,⟨fun b=>Iff.rfl,fun b hb=>⟨((lrow k T (eTPart A) s parts).r β).lt hrow hb,R⟩⟩,F3,F4,e2,d2,hhp,hrest⟩
  have hcall:=con β w F hin
  rw [ha β] at hcall
  refine hcall.mono (fun en w' he=>?_)
  obtain ⟨β',hβ,rfl,F',h2,h3,h4⟩:=he
  refine ⟨β',hβ,R,F',?_,h3,h4⟩
  obtain ⟨S',G2,g1,g2,hrd,G3,G4,g3,g4,gh,grest⟩:=h2
  have grest:Star ((add++ex).map fun p=>p.2.r β') w' G4:=grest
  rw [List.map_append,eex] at grest
  obtain ⟨H1,H2,a1,a2,hadd,hexx⟩:=Star_append.1 grest
  have hSS:S'=S:=funext fun b=>propext (hrd.1 b)
  subst hSS
  have hrow':((lrow k T (eTPart A) s parts).r β').holds w' S':=by
    have e5:(lrow k T (eTPart A) s parts).r β'=(lrow k T (eTPart A) s parts).r β:=(lrow k T (eTPart A) s parts).sup (fun j hj=>hβ j (by
      have:j=k:=by simpa [lrow,row] using hj
      subst this
      exact hfr' _ (List.mem_cons_of_mem _ (List.mem_map_of_mem (List.mem_append_right _ List.mem_cons_self)))))
    rw [e5]
    exact ((lrow k T (eTPart A) s parts).r β).loc (fun b hb=>(hrd.2 b hb).2) hrow
  have fin:Star ((lrow k T (eTPart A) s parts).r β'::starRes (hpL tq A Q)::((add.map fun p=>p.2.r β')++ptRes eTOp (payI A) TN (pI 0 t) (one1 (β' kr).v)::(((pkR A T s R1).map fun p=>p.2.r β')++((pkR A T s R2).map fun p=>p.2.r β')))) w' F' :=
    ⟨S',G2,g1,g2,hrow',G3,G4,g3,g4,gh,Star_append.2 ⟨H1,H2,a1,a2,hadd,hexx⟩⟩
  have pm2 : ∀ (x y z:Res) (L1 L2 M:List Res),(z::y::(M++x::(L1++L2))).Perm ((x::y::(L1++z::L2))++M):=fun x y z L1 L2 M=>by
    have q1:(z::y::(M++x::(L1++L2))).Perm ((z::y::x::(L1++L2))++M):=((List.perm_append_comm (l₁:=M) (l₂:=x::(L1++L2))).cons y).cons z
    exact q1.trans ((pm x y z L1 L2).symm.append_right M)
  obtain ⟨K1,K2,k1,k2,kpk,kadd⟩:=Star_append.1 (Star_perm (pm2 _ _ _ _ _ _) fin)
  refine ⟨K1,K2,k1,k2,⟨A,Star_pure.2 ⟨⟨hA,hQ⟩,?_⟩⟩,kadd⟩
  rw [erow];exact kpk
end Go.Proofs.YtgjbibabegabnaaGreat
namespace Go.Proofs.YtgjbibabegabnaaGreat
open Go Go.Proofs.YtgjbibabegabnaaGreat.Sx
theorem SCon.viewsR {P : Program} {f : FuncId} {args' : List SV} {args : Value → List SV} {ret : SV} {kr TN k T s : Nat} {t : PT TOp TQueue} {Q : List TQueue} {R1 R2 : List (Nat × List TPart)} {parts : List TPart} {add : List (Nat × Tok)} {fr : List Nat} {S2 : Foot} {w2 : World} (id hid : Nat)
    (h : ∀ (A:List (Nat→Nat)) (S:Foot) (W0:World) (v:Value),A.length=Q.length→LArg S W0 v (eTPart A) s parts→(∀ {α:Type} {u:Value} {e:α→List Value} {z:Nat} {l:List α},LArg S2 w2 u e z l→LArg S W0 u e z l)→SCon P f (args v) [(0,rd S W0),(hid,hp hid tq A Q)] ret ((0,rd S W0)::(hid,hp hid tq A Q)::add) fr)
    (hs:Nat.blt 0 s=true) (hlen : ∀ (A:List (Nat→Nat)) x,(eTPart A x).length=s)
    (ha : ∀ β:Env,(args (one1 (β k).v)).map (SV.den β)=args'.map (SV.den β))
    (hfr:(kr::(R1++(k,parts)::R2).map (·.1)).all (fun j=>!fr.contains j)=true):SCon P f args' [(0,rd S2 w2),(id,pkT kr TN t T s Q (R1++(k,parts)::R2))] ret ((0,rd S2 w2)::(id,pkT kr TN t T s Q (R1++(k,parts)::R2))::add) fr:=by
  rintro β w F ⟨F0,Fp,e0,d0,hrd2,hpk⟩
  have hfr' : ∀ j∈kr::(R1++(k,parts)::R2).map (·.1),j∉fr:=fun j hj hm=>by
    have:=List.all_eq_true.1 hfr j hj
    simp only [Bool.not_eq_true',List.contains_eq_mem,decide_eq_false_iff_not] at this
    exact this hm
  obtain ⟨A,h1⟩:=Star_one.1 hpk
  obtain ⟨⟨hA,hQ⟩,hS⟩:=Star_pure.1 h1
  have erow : ∀ γ:Env,((pkR A T s (R1++(k,parts)::R2)).map fun p=>p.2.r γ)=((pkR A T s R1).map fun p=>p.2.r γ)++(lrow k T (eTPart A) s parts).r γ::((pkR A T s R2).map fun p=>p.2.r γ):=fun γ=>by simp [pkR]
  rw [erow] at hS
  let ex:List (Nat×Tok):=(kr,ptT eTOp (payI A) TN kr (pI 0 t))::(pkR A T s R1++pkR A T s R2)
  have hex : ∀ p∈ex,∀ j∈p.2.ks,j∉fr:=fun p hp j hj=>by
    rcases List.mem_cons.1 hp with rfl | hp
    · have:j=kr:=by simpa [ptT] using hj
      subst this;exact hfr' _ List.mem_cons_self
    · have : ∃ q ∈ R1 ++ (k, parts) :: R2, j = q.1 := by
        rcases List.mem_append.1 hp with hp | hp
        · obtain ⟨q,hq,rfl⟩:=List.mem_map.1 hp
          exact ⟨q,List.mem_append_left _ hq,by simpa [lrow,row] using hj⟩
        · obtain ⟨q,hq,rfl⟩:=List.mem_map.1 hp
          exact ⟨q,List.mem_append_right _ (List.mem_cons_of_mem _ hq),by simpa [lrow,row] using hj⟩
      obtain ⟨q,hq,rfl⟩:=this
      exact hfr' _ (List.mem_cons_of_mem _ (List.mem_map_of_mem hq))
  have eex : ∀ γ:Env,(ex.map fun p=>p.2.r γ)=ptRes eTOp (payI A) TN (pI 0 t) (one1 (γ kr).v)::(((pkR A T s R1).map fun p=>p.2.r γ)++((pkR A T s R2).map fun p=>p.2.r γ)):=fun γ=>by
    show _::((pkR A T s R1++pkR A T s R2).map _)=_
    rw [List.map_append];rfl
  have pm : ∀ (x y z:Res) (L1 L2:List Res),(x::y::(L1++z::L2)).Perm (z::y::x::(L1++L2)):=fun x y z L1 L2=>by
    have q1:(L1++z::L2).Perm (z::(L1++L2)):=List.perm_middle
    refine ((q1.cons y).cons x).trans ?_
    have q2:([x,y]++z::(L1++L2)).Perm (z::([x,y]++(L1++L2))):=List.perm_middle
    exact q2.trans ((List.Perm.swap y x _).cons z)
  obtain ⟨S,F2,e1,d1,hrow,hrest0⟩:=Star_perm (pm _ _ _ _ _) hS
  have larg:LArg S w (one1 (β k).v) (eTPart A) s parts:=la (tr:=[(k,lrow k T (eTPart A) s parts)]) (β:=β) 0 rfl (hlen A) hs (Star_one.2 hrow)
  have con:=(h A (fun b=>S b∨F0 b) w (one1 (β k).v) hA (larg.mono (fun b hb=>.inl hb) (fun _ _=>rfl)) (fun l=>l.mono (fun b hb=>.inr ((hrd2.1 b).2 hb)) (fun b hb=>(hrd2.2 b hb).2))).frame ex hex
  have hin:Star ((([(0,rd (fun b=>S b∨F0 b) w),(hid,hp hid tq A Q)]++ex).map fun p=>p.2.r β)) w F:=by
    obtain ⟨F3,F4,e2,d2,hhp,hrest⟩:=hrest0
    rw [List.map_append,eex]
    refine ⟨fun b=>S b∨F0 b,F2,fun b=>?_,fun b hb h2=>?_,⟨fun b=>Iff.rfl,fun b hb=>⟨?_,R⟩⟩,F3,F4,e2,d2,hhp,hrest⟩
    · rw [e0 b,e1 b]
      exact ⟨fun h=>h.elim (fun h=>.inl (.inr h)) (fun h=>h.elim (fun h=>.inl (.inl h)) .inr),fun h=>h.elim (fun h=>h.elim (fun h=>.inr (.inl h)) .inl) (fun h=>.inr (.inr h))⟩
    · exact hb.elim (fun h=>d1 b h h2) (fun h=>d0 b h ((e1 b).2 (.inr h2)))
    · exact hb.elim (fun h=>((lrow k T (eTPart A) s parts).r β).lt hrow h) (fun h=>(hrd2.2 b ((hrd2.1 b).1 h)).1)
  have hcall:=con β w F hin
  rw [ha β] at hcall
  refine hcall.mono (fun en w' he=>?_)
  obtain ⟨β',hβ,rfl,F',h2,h3,h4⟩:=he
  refine ⟨β',hβ,R,F',?_,h3,h4⟩
  obtain ⟨U',G2,g1,g2,hrd,G3,G4,g3,g4,gh,grest⟩:=h2
  have grest:Star ((add++ex).map fun p=>p.2.r β') w' G4:=grest
  rw [List.map_append,eex] at grest
  obtain ⟨H1,H2,a1,a2,hadd,hexx⟩:=Star_append.1 grest
  have hU:U'=fun b=>S b∨F0 b:=funext fun b=>propext (hrd.1 b)
  subst hU
  have hrow':((lrow k T (eTPart A) s parts).r β').holds w' S:=by
    have e5:(lrow k T (eTPart A) s parts).r β'=(lrow k T (eTPart A) s parts).r β:=(lrow k T (eTPart A) s parts).sup (fun j hj=>hβ j (by
      have:j=k:=by simpa [lrow,row] using hj
      subst this
      exact hfr' _ (List.mem_cons_of_mem _ (List.mem_map_of_mem (List.mem_append_right _ List.mem_cons_self)))))
    rw [e5]
    exact ((lrow k T (eTPart A) s parts).r β).loc (fun b hb=>(hrd.2 b (.inl hb)).2) hrow
  have fin:Star ((lrow k T (eTPart A) s parts).r β'::starRes (hpL tq A Q)::((add.map fun p=>p.2.r β')++ptRes eTOp (payI A) TN (pI 0 t) (one1 (β' kr).v)::(((pkR A T s R1).map fun p=>p.2.r β')++((pkR A T s R2).map fun p=>p.2.r β')))) w' (fun b=>S b∨G2 b) :=
    ⟨S,G2,fun b=>Iff.rfl,fun b h1 h2=>g2 b (.inl h1) h2,hrow',G3,G4,g3,g4,gh,Star_append.2 ⟨H1,H2,a1,a2,hadd,hexx⟩⟩
  have pm2 : ∀ (x y z:Res) (L1 L2 M:List Res),(z::y::(M++x::(L1++L2))).Perm ((x::y::(L1++z::L2))++M):=fun x y z L1 L2 M=>by
    have q1:(z::y::(M++x::(L1++L2))).Perm ((z::y::x::(L1++L2))++M):=((List.perm_append_comm (l₁:=M) (l₂:=x::(L1++L2))).cons y).cons z
    exact q1.trans ((pm x y z L1 L2).symm.append_right M)
  obtain ⟨K1,K2,k1,k2,kpk,kadd⟩:=Star_append.1 (Star_perm (pm2 _ _ _ _ _ _) fin)
  refine ⟨F0,fun b=>S b∨G2 b,fun b=>?_,fun b h1 h2=>?_,⟨hrd2.1,fun b hb=>?_⟩,K1,K2,k1,k2,⟨A,Star_pure.2 ⟨⟨hA,hQ⟩,?_⟩⟩,kadd⟩
  · rw [g1 b]
    exact ⟨fun h=>h.elim (fun h=>h.elim (fun h=>.inr (.inl h)) .inl) (fun h=>.inr (.inr h)),fun h=>h.elim (fun h=>.inl (.inr h)) (fun h=>h.elim (fun h=>.inl (.inl h)) .inr)⟩
  · exact h2.elim (fun h=>d0 b h1 ((e1 b).2 (.inl h))) (fun h=>g2 b (.inr h1) h)
  · have hb0:=(hrd2.1 b).2 hb
    exact ⟨(hrd.2 b (.inr hb0)).1,(hrd.2 b (.inr hb0)).2.trans (hrd2.2 b hb).2⟩
  · rw [erow];exact kpk
end Go.Proofs.YtgjbibabegabnaaGreat
namespace Go.Proofs.YtgjbibabegabnaaGreat
open Go Go.Proofs.YtgjbibabegabnaaGreat.Sx
abbrev Tree_LenS_st (m0 m1:Nat):Prop:=∀ {k:Nat} {p1:Pool (TNode TSlot TSize)} {rt0:TRef} {r:Int} (H0:Tree_Len.f opsS k p1 rt0=some r),SCon Tryz.prog 68 [SV.p m0 0] [(m0,blk m0 [.p m1 0,.i rt0.index,.i rt0.gen] 121),(m1,plS m1 p1)] (.a (.c (.v (.int .i64 r)))) [(m0,blk m0 [.p m1 0,.i rt0.index,.i rt0.gen] 121),(m1,plS m1 p1)] []
theorem Tree_LenS_con0:Tree_LenS_st 0 1:=by
 intro k p1 rt0 r H0
 rw [Tree_Len.f] at H0
 exact M.s Tryz.func68 Tryz.ntmps68 R fun β W F=>xg 6 [] R<|M.b H0 fun x1 hx1 H0=>xg 6 [] R<|kR (Tree_getS_con 0 1 hx1) R<|xk 5 [] R<|by cases H0;exact ZR []
theorem Tree_LenS_con (m0 m1:Nat):Tree_LenS_st m0 m1:=fun H0=>cnA [(0,m0),(1,m1)] (Tree_LenS_con0 H0)
abbrev Tree_RankS_st (m0 m1:Nat):Prop:=∀ {k:Nat} {p1:Pool (TNode TSlot TSize)} {rt0:TRef} {a1:TSlot} {r:Int} (H0:Tree_Rank.f opsS k p1 rt0 a1=some r),SCon Tryz.prog 104 [SV.p m0 0,.a (.agg ((eTSlot a1).map .v))] [(m0,blk m0 [.p m1 0,.i rt0.index,.i rt0.gen] 121),(m1,plS m1 p1)] (.a (.c (.v (.int .i64 r)))) [(m0,blk m0 [.p m1 0,.i rt0.index,.i rt0.gen] 121),(m1,plS m1 p1)] []
theorem Tree_RankS_con0:Tree_RankS_st 0 1:=by
 intro k p1 rt0 a1 r H0
 rw [Tree_Rank.f] at H0
 exact M.s Tryz.func104 Tryz.ntmps104 R fun β W F=>xg 11 [100] R<|M.b H0 fun x1 H1 H0=>M.x ([(5,.a (.c (.v (.int .i64 x1))))]) ([(1,plS 1 p1),(0,blk 0 [.p 1 0,.v (.int .i64 rt0.index),.v (.int .i64 rt0.gen)] 121)]) (xg 11 [101] R<|M.l (Tree_Rank.l0 opsS k p1 a1) H1 (fun (v1,v2)=>[(0,.a (.c (.p 0 0))),(3,.a (.c (.p 106 0))),(5,.a (.c (.v (.int .i64 v1)))),(6,.a (.c (.p 107 0)))]) (fun (v1,v2)=>[(1,plS 1 p1),(0,blk 0 [.p 1 0,.v (.int .i64 rt0.index),.v (.int .i64 rt0.gen)] 121),(106,blk 106 [.v (.int .i64 a1.item.key),.v (.int .i64 a1.item.id),.v (.bool a1.eaten),.v (.int .i64 a1.time)] 82),(107,blk 107 [.v (.int .i64 v2.index),.v (.int .i64 v2.gen)] 119)]) [(106,100),(107,101)] fun n0 (v1,v2) H1=>xg 8 [] R<|M.c R H1 (fun h1 H1=>xg 5 [] R<|M.b H1 fun x2 hx2 H1=>xg 3 [] R<|kR (Tree_getS_con 0 1 hx2) R<|xk 6 [108] R<|M.b H1 fun x3 hx3 H1=>xg 2 [] R<|K.mkIface Y g0 R (mkI Tryz.underlying82 R) R<|xk 2 [] R<|K.callR [((.tmp 19),_),((.tmp 21),_)] (shelf_Slot_Compare_con (k:=k) hx3) (toFn_invoke (cf 201 R) (me82_201) R) g0 ⟨R,R,trivial⟩ trivial R R R<|xk 3 [] R<|M.c R H1 (fun h2 H1=>xg 20 [109] R<|M.ag H1 [(107,109)]) (fun h2 H1=>xg 3 [] R<|M.b H1 fun x4 hx4 H1=>xg 5 [] R<|kR (Tree_weightS_con 0 1 hx4) R<|xk 20 [110] R<|M.ag H1 [(107,110)])) (fun h1 H1=>xg 4 [] R<|by cases H1;exact M.xd []))<|xg 7 [] R<|by cases H0;exact ZR []
theorem Tree_RankS_con (m0 m1:Nat):Tree_RankS_st m0 m1:=fun H0=>cnA [(0,m0),(1,m1)] (Tree_RankS_con0 H0)
abbrev shelf_Above_st (m0 m1:Nat):Prop:=∀ {k:Nat} {p1:Pool (TNode TSlot TSize)} {rt0:TRef} {a1:TItem} {r:Int} (H0:shelf_Above.f k p1 rt0 a1=some r),SCon Tryz.prog 75 [SV.p m0 0,.a (.agg ((eTItem a1).map .v))] [(m0,blk m0 [.p m1 0,.i rt0.index,.i rt0.gen] 121),(m1,plS m1 p1)] (.a (.c (.v (.int .i64 r)))) [(m0,blk m0 [.p m1 0,.i rt0.index,.i rt0.gen] 121),(m1,plS m1 p1)] []
theorem shelf_Above_con0:shelf_Above_st 0 1:=by
 intro k p1 rt0 a1 r H0
 rw [shelf_Above.f] at H0
 exact M.s Tryz.func75 Tryz.ntmps75 R fun β W F=>xg 10 [100] R<|K.eqnil (V:=false) g0 R R (pn_eql_some Tryz.underlying75) R<|xk 2 [] R<|G.cond R (fun h1=>by cases h1) (fun h1=>xg 3 [] R<|M.b H0 fun x1 hx1 H0=>M.b H0 fun x2 hx2 H0=>M.b H0 fun x3 hx3 H0=>xg 2 [] R<|kR (Tree_LenS_con 0 1 hx1) R<|xd 2 [] R<|kR (shelf_Of_con hx2) R<|kR (Tree_RankS_con 0 1 hx3) R<|xd 2 [] R<|M.n<|xa 3 [] R<|M.b H0 fun x4 hx4 H0=>M.b H0 fun x5 hx5 H0=>xg 3 [] R<|kR (shelf_Of_con hx4) R<|kR (Tree_FindS_con 0 1 hx5) R<|xk 13 [101] R<|M.c R H0 (fun h2 H0=>xg 13 [] R<|by cases H0;exact ZR []) (fun h2 H0=>xg 9 [] R<|by cases H0;exact ZR []))
theorem shelf_Above_con (m0 m1:Nat):shelf_Above_st m0 m1:=fun H0=>cnA [(0,m0),(1,m1)] (shelf_Above_con0 H0)
abbrev fuse_part_ahead_st (m0:Nat):Prop:=∀ {k:Nat} {A:List (Nat→Nat)} {Q:List TQueue} {a0:TPart} {r:Int} (hL_9:A.length=Q.length) (H0:fuse_part_ahead.f k Q a0=some r),SCon Tryz.prog 50 [.a (.agg (((eTPart A) a0).map .v))] [(m0,hp m0 tq A Q)] (.a (.c (.v (.int .i64 r)))) [(m0,hp m0 tq A Q)] []
theorem fuse_part_ahead_con0:fuse_part_ahead_st 0:=by
 intro k A Q a0 r hL_9 H0
 rw [fuse_part_ahead.f] at H0
 exact M.s Tryz.func50 Tryz.ntmps50 R fun β W F=>xg 15 [100] R<|M.c R H0 (fun h1 H0=>xg 7 [] R<|by cases H0;exact ZR []) (fun h1 H0=>xg 3 [] R<|M.b H0 fun x1 hx1 H0=>M.b H0 fun x2 hx2 H0=>M.b H0 fun x3 hx3 H0=>M.b H0 fun x4 hx4 H0=>xg 3 [] R<|kR (onTree 0 hL_9 hx1 (Tree_LenS_con 4 5 hx2) (Tree_LenS_con 6 7 hx2) R R R R) R<|xd 5 [] R<|kR (onTree 0 hL_9 hx3 (shelf_Above_con 4 5 hx4) (shelf_Above_con 6 7 hx4) R R R R) R<|xd 2 [] R<|M.n<|xa 2 [] R<|by cases H0;exact ZR [])
theorem fuse_part_ahead_con (m0:Nat):fuse_part_ahead_st m0:=fun hL_9 H0=>cnA [(0,m0)] (fuse_part_ahead_con0 hL_9 H0)
abbrev fuse_part_size_st (m0:Nat):Prop:=∀ {k:Nat} {A:List (Nat→Nat)} {Q:List TQueue} {a0:TPart} {r:Int} (hL_9:A.length=Q.length) (H0:fuse_part_size.f k Q a0=some r),SCon Tryz.prog 41 [.a (.agg (((eTPart A) a0).map .v))] [(m0,hp m0 tq A Q)] (.a (.c (.v (.int .i64 r)))) [(m0,hp m0 tq A Q)] []
theorem fuse_part_size_con0:fuse_part_size_st 0:=by
 intro k A Q a0 r hL_9 H0
 rw [fuse_part_size.f] at H0
 exact M.s Tryz.func41 Tryz.ntmps41 R fun β W F=>xg 7 [100] R<|M.b H0 fun x1 hx1 H0=>M.b H0 fun x2 hx2 H0=>M.b H0 fun x3 hx3 H0=>xg 3 [] R<|kR (onTree 0 hL_9 hx1 (Tree_LenS_con 4 5 hx2) (Tree_LenS_con 6 7 hx2) R R R R) R<|xd 1 [] R<|kR (fuse_part_ahead_con 0 hL_9 hx3) R<|xd 2 [] R<|M.n<|xa 2 [] R<|by cases H0;exact ZR []
theorem fuse_part_size_con (m0:Nat):fuse_part_size_st m0:=fun hL_9 H0=>cnA [(0,m0)] (fuse_part_size_con0 hL_9 H0)
abbrev fuse_part_rank_st (m0:Nat):Prop:=∀ {k:Nat} {A:List (Nat→Nat)} {Q:List TQueue} {a0:TPart} {a1:TItem} {r:Int} (hL_9:A.length=Q.length) (H0:fuse_part_rank.f k Q a0 a1=some r),SCon Tryz.prog 127 [.a (.agg (((eTPart A) a0).map .v)),.a (.agg ((eTItem a1).map .v))] [(m0,hp m0 tq A Q)] (.a (.c (.v (.int .i64 r)))) [(m0,hp m0 tq A Q)] []
theorem fuse_part_rank_con0:fuse_part_rank_st 0:=by
 intro k A Q a0 a1 r hL_9 H0
 rw [fuse_part_rank.f] at H0
 exact M.s Tryz.func127 Tryz.ntmps127 R fun β W F=>xg 8 [100,101] R<|M.b H0 fun x1 hx1 H0=>M.b H0 fun x2 hx2 H0=>M.b H0 fun x3 hx3 H0=>M.b H0 fun x4 hx4 H0=>xg 4 [] R<|kR (shelf_Of_con hx1) R<|kR (onTree 0 hL_9 hx2 (Tree_RankS_con 4 5 hx3) (Tree_RankS_con 6 7 hx3) R R R R) R<|xd 1 [] R<|kR (fuse_part_ahead_con 0 hL_9 hx4) R<|xd 1 [] R<|K.bi2 (V:=.int .i64 (gmax 0 (w64 (x3 - x4)))) g0 R R (fun _ _=>R) R<|xd 1 [] R<|M.n<|xa 2 [] R<|by cases H0;exact ZR []
theorem fuse_part_rank_con (m0:Nat):fuse_part_rank_st m0:=fun hL_9 H0=>cnA [(0,m0)] (fuse_part_rank_con0 hL_9 H0)
abbrev fuse_Views_Len_st (m1:Nat):Prop:=∀ {k:Nat} {S:Foot} {W0:World} {A:List (Nat→Nat)} {s0_0:Value} {Q:List TQueue} {a0:TViews} {r:Int} (hL_9:A.length=Q.length) (hL0_0:LArg S W0 s0_0 (eTPart A) 4 a0.parts) (H0:fuse_Views_Len.f k Q a0=some r),SCon Tryz.prog 20 [.a (.agg [.v s0_0])] [(0,rd S W0),(m1,hp m1 tq A Q)] (.a (.c (.v (.int .i64 r)))) [(0,rd S W0),(m1,hp m1 tq A Q)] []
theorem fuse_Views_Len_con0:fuse_Views_Len_st 1:=by
 intro k S W0 A s0_0 Q a0 r hL_9 hL0_0 H0
 rw [fuse_Views_Len.f] at H0
 obtain ⟨b0_0,o0_0,hI0_0⟩:=hL0_0
 obtain ⟨ao0_0,cap0_0,hE0_0,_⟩:=hI0_0.sl
 subst hE0_0
 exact M.s Tryz.func20 Tryz.ntmps20 R fun β W F=>xg 11 [100] R<|M.b H0 fun x1 H1 H0=>M.x ([(3,.a (.c (.v (.int .i64 x1))))]) ([(0,rd S W0),(1,hp 1 tq A Q)]) (xg 4 [] R<|K.lenL _ (hI0_0.is 0) g0 R R Tryz.underlying40 R<|xk 4 [] R<|M.l (fuse_Views_Len.l0 k Q a0) H1 (fun (v1,v2)=>[(3,.a (.c (.v (.int .i64 v1)))),(7,SV.raw (Value.slice ao0_0 a0.parts.length cap0_0)),(8,.a (.c (.v (.int .i64 (a0.parts.length:Int))))),(9,.a (.c (.v (.int .i64 v2))))]) (fun (v1,v2)=>[(0,rd S W0),(1,hp 1 tq A Q)]) [] fun n0 (v1,v2) H1=>xg 6 [] R<|M.c R H1 (fun h1 H1=>xg 5 [] R<|M.b H1 fun x2 hx2 H1=>xg 1 [] R<|K.idxL _ _ (hI0_0.is 0) (atL_get hx2) (atL_nn hx2) g0 R R R Tryz.underlying40 el40.size_run R<|K.loadSL Y _ _ 0 [_,_,_,_] [_,_,_,_] (hI0_0.is 0) (atL_get hx2) g0 R R t79 R R R R R<|xk 4 [101] R<|M.b H1 fun x3 hx3 H1=>xg 3 [] R<|kR (fuse_part_size_con 1 hL_9 hx3) R<|xk 9 [] R<|M.ag H1 []) (fun h1 H1=>xg 4 [] R<|by cases H1;exact M.xd []))<|xg 7 [] R<|by cases H0;exact ZR []
theorem fuse_Views_Len_con (m1:Nat):fuse_Views_Len_st m1:=fun hL_9 hL0_0 H0=>cnA [(1,m1)] (fuse_Views_Len_con0 hL_9 hL0_0 H0)
abbrev fuse_Views_rank_st (m1:Nat):Prop:=∀ {k:Nat} {S:Foot} {W0:World} {A:List (Nat→Nat)} {s0_0:Value} {Q:List TQueue} {a0:TViews} {a1:TItem} {r:Int} (hL_9:A.length=Q.length) (hL0_0:LArg S W0 s0_0 (eTPart A) 4 a0.parts) (H0:fuse_Views_rank.f k Q a0 a1=some r),SCon Tryz.prog 99 [.a (.agg [.v s0_0]),.a (.agg ((eTItem a1).map .v))] [(0,rd S W0),(m1,hp m1 tq A Q)] (.a (.c (.v (.int .i64 r)))) [(0,rd S W0),(m1,hp m1 tq A Q)] []
theorem fuse_Views_rank_con0:fuse_Views_rank_st 1:=by
 intro k S W0 A s0_0 Q a0 a1 r hL_9 hL0_0 H0
 rw [fuse_Views_rank.f] at H0
 obtain ⟨b0_0,o0_0,hI0_0⟩:=hL0_0
 obtain ⟨ao0_0,cap0_0,hE0_0,_⟩:=hI0_0.sl
 subst hE0_0
 exact M.s Tryz.func99 Tryz.ntmps99 R fun β W F=>xg 12 [100,101] R<|M.b H0 fun x1 H1 H0=>M.x ([(5,.a (.c (.v (.int .i64 x1))))]) ([(0,rd S W0),(1,hp 1 tq A Q)]) (xg 4 [] R<|K.lenL _ (hI0_0.is 0) g0 R R Tryz.underlying40 R<|xk 4 [] R<|M.l (fuse_Views_rank.l0 k Q a0 a1) H1 (fun (v1,v2)=>[(3,.a (.c (.p 104 0))),(5,.a (.c (.v (.int .i64 v1)))),(9,SV.raw (Value.slice ao0_0 a0.parts.length cap0_0)),(10,.a (.c (.v (.int .i64 (a0.parts.length:Int))))),(11,.a (.c (.v (.int .i64 v2))))]) (fun (v1,v2)=>[(0,rd S W0),(104,blk 104 [.v (.int .i64 a1.key),.v (.int .i64 a1.id)] 28),(1,hp 1 tq A Q)]) [(104,101)] fun n0 (v1,v2) H1=>xg 6 [] R<|M.c R H1 (fun h1 H1=>xg 5 [] R<|M.b H1 fun x2 hx2 H1=>xg 1 [] R<|K.idxL _ _ (hI0_0.is 0) (atL_get hx2) (atL_nn hx2) g0 R R R Tryz.underlying40 el40.size_run R<|K.loadSL Y _ _ 0 [_,_,_,_] [_,_,_,_] (hI0_0.is 0) (atL_get hx2) g0 R R t79 R R R R R<|xk 4 [105] R<|M.b H1 fun x3 hx3 H1=>xg 4 [] R<|kR (fuse_part_rank_con 1 hL_9 hx3) R<|xk 9 [] R<|M.ag H1 []) (fun h1 H1=>xg 4 [] R<|by cases H1;exact M.xd []))<|xg 7 [] R<|by cases H0;exact ZR []
theorem fuse_Views_rank_con (m1:Nat):fuse_Views_rank_st m1:=fun hL_9 hL0_0 H0=>cnA [(1,m1)] (fuse_Views_rank_con0 hL_9 hL0_0 H0)
abbrev Tree_AtS_st (m0 m1:Nat):Prop:=∀ {k:Nat} {p1:Pool (TNode TSlot TSize)} {rt0:TRef} {a1:Int} {r:TSlot×Bool} (H0:Tree_At.f opsS k p1 rt0 a1=some r),SCon Tryz.prog 98 [SV.p m0 0,.a (.c (.v (.int .i64 a1)))] [(m0,blk m0 [.p m1 0,.i rt0.index,.i rt0.gen] 121),(m1,plS m1 p1)] (.tup [.agg ((eTSlot r.1).map .v),.c (.v (.bool r.2))]) [(m0,blk m0 [.p m1 0,.i rt0.index,.i rt0.gen] 121),(m1,plS m1 p1)] []
theorem Tree_AtS_con0:Tree_AtS_st 0 1:=by
 intro k p1 rt0 a1 r H0
 rw [Tree_At.f] at H0
 exact M.s Tryz.func98 Tryz.ntmps98 R fun β W F=>xg 18 [100,101] R<|M.c R H0 (fun h1 H0=>xg 9 [] R<|by cases H0;exact ZR []) (fun h1 H0=>xg 2 [] R<|M.b H0 fun x1 H1 H0=>M.j (σ:={ v:Unit // x1=Sum.inr v }) (fun q=>[(4,.a (.c (.p 102 0))),(6,.a (.c (.p 103 0)))]) (fun q=>[(102,blk 102 [.v (.int .i64 0),.v (.int .i64 0),.v (.bool false),.v (.int .i64 0)] 82),(103,blk 103 [.v (.int .i64 0),.v (.int .i64 0),.v (.bool false),.v (.int .i64 0)] 82),(1,plS 1 p1),(0,blk 0 [.p 1 0,.v (.int .i64 rt0.index),.v (.int .i64 rt0.gen)] 121)]) (xg 11 [104] R<|M.l (Tree_At.l0 opsS k p1) H1 (fun (v1,v2)=>[(0,.a (.c (.p 0 0))),(1,.a (.c (.v (.int .i64 v1)))),(4,.a (.c (.p 111 0))),(6,.a (.c (.p 112 0))),(7,.a (.c (.p 113 0)))]) (fun (v1,v2)=>[(1,plS 1 p1),(0,blk 0 [.p 1 0,.v (.int .i64 rt0.index),.v (.int .i64 rt0.gen)] 121),(111,blk 111 [.v (.int .i64 0),.v (.int .i64 0),.v (.bool false),.v (.int .i64 0)] 82),(112,blk 112 [.v (.int .i64 0),.v (.int .i64 0),.v (.bool false),.v (.int .i64 0)] 82),(113,blk 113 [.v (.int .i64 v2.index),.v (.int .i64 v2.gen)] 119)]) [(111,100),(112,101),(113,104)] fun n0 (v1,v2) H1=>xg 8 [] R<|M.c R H1 (fun h2 H1=>xg 5 [] R<|M.b H1 fun x2 hx2 H1=>xg 3 [] R<|kR (Tree_getS_con 0 1 hx2) R<|xk 5 [114] R<|M.b H1 fun x3 hx3 H1=>xg 4 [] R<|kR (Tree_getS_con 0 1 hx3) R<|xk 13 [] R<|M.c R H1 (fun h3 H1=>xg 15 [] R<|by cases H1;exact have H0:=sum_l H0;by cases H0;exact ZR []) (fun h3 H1=>xg 8 [] R<|M.c R H1 (fun h4 H1=>xg 17 [115] R<|M.ag H1 [(113,115)]) (fun h4 H1=>xg 26 [116] R<|M.ag H1 [(113,116)]))) (fun h2 H1=>xg 4 [] R<|M.jd ⟨(),oi H1⟩ [(102,111),(103,112)]))<|by rintro ⟨w1,rfl⟩;exact have H0:=sum_r H0;xg 8 [] R<|by cases H0;exact ZR [])
theorem Tree_AtS_con (m0 m1:Nat):Tree_AtS_st m0 m1:=fun H0=>cnA [(0,m0),(1,m1)] (Tree_AtS_con0 H0)
abbrev fuse_Views_within_st (m1:Nat):Prop:=∀ {k:Nat} {S:Foot} {W0:World} {A:List (Nat→Nat)} {s0_0:Value} {Q:List TQueue} {a0:TViews} {a1:TPart} {a2:Int} {r:TItem×Bool} (hL_9:A.length=Q.length) (hL0_0:LArg S W0 s0_0 (eTPart A) 4 a0.parts) (H0:fuse_Views_within.f k Q a0 a1 a2=some r),SCon Tryz.prog 67 [.a (.agg [.v s0_0]),.a (.agg (((eTPart A) a1).map .v)),.a (.c (.v (.int .i64 a2)))] [(0,rd S W0),(m1,hp m1 tq A Q)] (.tup [.agg ((eTItem r.1).map .v),.c (.v (.bool r.2))]) [(0,rd S W0),(m1,hp m1 tq A Q)] []
theorem fuse_Views_within_con0:fuse_Views_within_st 1:=by
 intro k S W0 A s0_0 Q a0 a1 a2 r hL_9 hL0_0 H0
 rw [fuse_Views_within.f] at H0
 obtain ⟨b0_0,o0_0,hI0_0⟩:=hL0_0
 obtain ⟨ao0_0,cap0_0,hE0_0,_⟩:=hI0_0.sl
 subst hE0_0
 exact M.s Tryz.func67 Tryz.ntmps67 R fun β W F=>xg 9 [100,101,102] R<|M.b H0 fun x1 hx1 H0=>M.b H0 fun x2 hx2 H0=>M.b H0 fun x3 hx3 H0=>xg 2 [] R<|kR (fuse_part_ahead_con 1 hL_9 hx1) R<|xd 2 [] R<|kR (onTree 1 hL_9 hx2 (Tree_LenS_con 4 5 hx3) (Tree_LenS_con 6 7 hx3) R R R R) R<|xd 2 [] R<|M.n<|xa 1 [] R<|M.b H0 fun x4 H1 H0=>M.j (σ:={ v:Unit // x4=Sum.inr v }) (fun q=>[(6,.a (.c (.p 103 0)))]) (fun q=>[(0,rd S W0),(103,blk 103 [.v (.int .i64 0),.v (.int .i64 0)] 28),(1,hp 1 tq A Q)]) (xg 1 [] R<|M.l (fuse_Views_within.l0 k Q a0 a1 a2) H1 (fun (v1,v2)=>[(2,.a (.c (.v (.int .i64 a2)))),(3,.a (.c (.p 110 0))),(4,.a (.c (.p 111 0))),(6,.a (.c (.p 112 0))),(8,.a (.c (.v (.int .i64 v1)))),(9,.a (.c (.v (.int .i64 v2))))]) (fun (v1,v2)=>[(0,rd S W0),(110,blk 110 [.v (Value.slice ao0_0 a0.parts.length cap0_0)] 42),(111,blk 111 [.v (ptr (hA A a1.shelf) 0),.v (.bool a1.floor.found),.v (.int .i64 a1.floor.item.key),.v (.int .i64 a1.floor.item.id)] 79),(112,blk 112 [.v (.int .i64 0),.v (.int .i64 0)] 28),(1,hp 1 tq A Q)]) [(110,100),(111,101),(112,102)] fun n0 (v1,v2) H1=>xg 8 [] R<|M.c R H1 (fun h1 H1=>xg 8 [] R<|K.bin (V:=.int .i64 (w64 ((w64 (v1+v2)).tdiv 2))) g0 R R (quo_run (by decide)) R<|xk 4 [] R<|M.b H1 fun x5 hx5 H1=>M.b H1 fun x6 hx6 H1=>xg 4 [] R<|kR (onTree 1 hL_9 hx5 (Tree_AtS_con 4 5 hx6) (Tree_AtS_con 6 7 hx6) R R R R) R<|xk 9 [113] R<|M.b H1 fun x7 hx7 H1=>xg 4 [] R<|K.cV (cf 99 R) [0] (fun β w S2 h=>fuse_Views_rank_con 1 (a0:=a0) hL_9 ((hI0_0.isC 0).larg ⟨_,List.mem_cons_self⟩ h) hx7) g0 (fun _=>R) R R R<|xk 12 [] R<|M.c R H1 (fun h2 H1=>xg 14 [] R<|by cases H1;exact have H0:=sum_l H0;by cases H0;exact ZR []) (fun h2 H1=>xg 8 [] R<|M.c R H1 (fun h3 H1=>xg 7 [] R<|M.ag H1 []) (fun h3 H1=>xg 6 [] R<|M.ag H1 []))) (fun h1 H1=>xg 4 [] R<|M.jd ⟨(),oi H1⟩ [(103,112)]))<|by rintro ⟨w4,rfl⟩;exact have H0:=sum_r H0;xg 8 [] R<|by cases H0;exact ZR []
theorem fuse_Views_within_con (m1:Nat):fuse_Views_within_st m1:=fun hL_9 hL0_0 H0=>cnA [(1,m1)] (fuse_Views_within_con0 hL_9 hL0_0 H0)
abbrev fuse_Views_At_st (m1:Nat):Prop:=∀ {k:Nat} {S:Foot} {W0:World} {A:List (Nat→Nat)} {s0_0:Value} {Q:List TQueue} {a0:TViews} {a1:Int} {r:TItem×Bool} (hL_9:A.length=Q.length) (hL0_0:LArg S W0 s0_0 (eTPart A) 4 a0.parts) (H0:fuse_Views_At.f k Q a0 a1=some r),SCon Tryz.prog 40 [.a (.agg [.v s0_0]),.a (.c (.v (.int .i64 a1)))] [(0,rd S W0),(m1,hp m1 tq A Q)] (.tup [.agg ((eTItem r.1).map .v),.c (.v (.bool r.2))]) [(0,rd S W0),(m1,hp m1 tq A Q)] []
theorem fuse_Views_At_con0:fuse_Views_At_st 1:=by
 intro k S W0 A s0_0 Q a0 a1 r hL_9 hL0_0 H0
 rw [fuse_Views_At.f] at H0
 obtain ⟨b0_0,o0_0,hI0_0⟩:=hL0_0
 obtain ⟨ao0_0,cap0_0,hE0_0,_⟩:=hI0_0.sl
 subst hE0_0
 exact M.s Tryz.func40 Tryz.ntmps40 R fun β W F=>xg 7 [100,101] R<|M.b H0 fun x1 H1 H0=>M.j (σ:={ v:Unit // x1=Sum.inr v }) (fun q=>[(4,.a (.c (.p 102 0)))]) (fun q=>[(0,rd S W0),(102,blk 102 [.v (.int .i64 0),.v (.int .i64 0)] 28),(1,hp 1 tq A Q)]) (xg 4 [] R<|K.lenL _ (hI0_0.is 0) g0 R R Tryz.underlying40 R<|xk 4 [] R<|M.l (fuse_Views_At.l0 k Q a0 a1) H1 (fun v1=>[(1,.a (.c (.v (.int .i64 a1)))),(2,.a (.c (.p 107 0))),(4,.a (.c (.p 108 0))),(11,SV.raw (Value.slice ao0_0 a0.parts.length cap0_0)),(12,.a (.c (.v (.int .i64 (a0.parts.length:Int))))),(13,.a (.c (.v (.int .i64 v1))))]) (fun v1=>[(0,rd S W0),(107,blk 107 [.v (Value.slice ao0_0 a0.parts.length cap0_0)] 42),(108,blk 108 [.v (.int .i64 0),.v (.int .i64 0)] 28),(1,hp 1 tq A Q)]) [(107,100),(108,101)] fun n0 v1 H1=>xg 6 [] R<|M.c R H1 (fun h1 H1=>xg 5 [] R<|M.b H1 fun x2 hx2 H1=>xg 1 [] R<|K.idxL _ _ (hI0_0.is 0) (atL_get hx2) (atL_nn hx2) g0 R R R Tryz.underlying40 el40.size_run R<|K.loadSL Y _ _ 0 [_,_,_,_] [_,_,_,_] (hI0_0.is 0) (atL_get hx2) g0 R R t79 R R R R R<|xk 5 [109] R<|M.b H1 fun x3 hx3 H1=>xg 4 [] R<|K.cV (cf 67 R) [0] (fun β w S2 h=>fuse_Views_within_con 1 (a0:=a0) hL_9 ((hI0_0.isC 0).larg ⟨_,List.mem_cons_self⟩ h) hx3) g0 (fun _=>R) R R R<|xk 13 [110] R<|M.c R H1 (fun h2 H1=>xg 13 [] R<|by cases H1;exact have H0:=sum_l H0;by cases H0;exact ZR []) (fun h2 H1=>xg 7 [] R<|M.ag H1 [])) (fun h1 H1=>xg 4 [] R<|M.jd ⟨(),oi H1⟩ [(102,108)]))<|by rintro ⟨w1,rfl⟩;exact have H0:=sum_r H0;xg 8 [] R<|by cases H0;exact ZR []
theorem fuse_Views_At_con (m1:Nat):fuse_Views_At_st m1:=fun hL_9 hL0_0 H0=>cnA [(1,m1)] (fuse_Views_At_con0 hL_9 hL0_0 H0)
abbrev fuse_part_raised_st (m0:Nat):Prop:=∀ {k:Nat} {A:List (Nat→Nat)} {Q:List TQueue} {a0:TPart} {a1:TItem} {r:TPart} (hL_9:A.length=Q.length) (H0:fuse_part_raised.f k Q a0 a1=some r),SCon Tryz.prog 97 [.a (.agg (((eTPart A) a0).map .v)),.a (.agg ((eTItem a1).map .v))] [(m0,hp m0 tq A Q)] (.a (.agg (((eTPart A) r).map .v))) [(m0,hp m0 tq A Q)] []
theorem fuse_part_raised_con0:fuse_part_raised_st 0:=by
 intro k A Q a0 a1 r hL_9 H0
 rw [fuse_part_raised.f] at H0
 exact M.s Tryz.func97 Tryz.ntmps97 R fun β W F=>xg 9 [100,101,102] R<|M.i (t:=(!a0.floor.found)) (fun h1=>have H0:=bif_t H0 h1;xg 6 [] R<|kk h1 R<|kk h1 R<|kk h1 R<|kk h1 R<|kk h1 R<|kk h1 R<|K.pickT g0 R (h1) R R<|xk 2 [] R<|G.cond R (fun h2=>xg 14 [] R<|by cases H0;exact ZR []) (fun h2=>by cases h2)) (fun h1=>have H0:=bif_f H0 h1;M.b H0 fun x1 hx1 H0=>xg 6 [] R<|K.fieldAddr Y (g1 R R h1) R t79 R R<|K.fieldAddr Y (g1 R R h1) R t77 R R<|K.loadS Y _ (g1 R R h1) R R t28 R R R<|K.loadS Y _ (g1 R R h1) R R t28 R R R<|K.cR (cf 46 R) (item_Compare_con hx1) (g1 R R h1) R R R R<|K.bin (V:=.bool (decide (x1<0))) (g1 R R h1) R R (fun _=>R) R<|K.pickF g0 R (h1) R R<|xk 2 [] R<|M.c R H0 (fun h3 H0=>xg 14 [] R<|by cases H0;exact ZR []) (fun h3 H0=>xg 9 [] R<|by cases H0;exact ZR []))
theorem fuse_part_raised_con (m0:Nat):fuse_part_raised_st m0:=fun hL_9 H0=>cnA [(0,m0)] (fuse_part_raised_con0 hL_9 H0)
abbrev slices_Clone_st (m1 m30:Nat):Prop:=∀ {k:Nat} {S:Foot} {W0:World} {A:List (Nat→Nat)} {s0:Value} {Q:List TQueue} {l0:List TPart} {r:List TPart} (hL_9:A.length=Q.length) (hL0:LArg S W0 s0 (eTPart A) 4 l0) (H0:slices_Clone.f k Q l0=some r),SCon Tryz.prog 94 [SV.raw s0] [(0,rd S W0),(m1,hp m1 tq A Q)] (.a (.c (.nv m30))) [(0,rd S W0),(m1,hp m1 tq A Q),(m30,lrow m30 79 (eTPart A) 4 r)] [m30]
theorem slices_Clone_con0:slices_Clone_st 1 30:=by
 intro k S W0 A s0 Q l0 r hL_9 hL0 H0
 rw [slices_Clone.f] at H0
 obtain ⟨b0,o0,hI0⟩:=hL0
 refine spec_of [(0,_)] [(0,_),(1,_)] 8 Tryz.func94 R Tryz.ntmps94 R R R R (fun β W F=>?_)
 obtain ⟨ao0,cap0,hE0,hc0,hp0⟩:=hI0.sl
 subst hE0
 cases ao0 with
 | none =>
  have hl0:l0=[]:=by
   cases l0 with
   | nil => rfl
   | cons x l => exact absurd (hp0 (by simp)) (by simp)
  replace H0:some ([]:List TPart)=some r:=by rw [hl0] at H0;simpa using H0
  refine G.seq<|G.rg<|K.nilRow 100 79 (eTPart A) 4 (.inl R) g0 R R R<|K.nil<|At.ns<|G.seq<|G.rg<|K.mv R R<|K.bin (V:=.bool true) g0 R R (sn_eql Tryz.underlying40 none _ _) R<|K.nil<|At.next<|G.cond R (fun h1=>?_) (fun h1=>?_)
  ·
   exact G.seq<|G.rg<|K.nilRow 101 79 (eTPart A) 4 (.inl R) g0 R R R<|K.nil<|At.next<|G.ret<|At.over_ret<|At.ren (fs':=[(2,.a (.c (.nv 30)))]) (tl:=[(0,rd S W0),(1,hp 1 tq A Q),(30,lrow 30 79 (eTPart A) 4 ([]:List TPart))]) [(30,101)] [_,_,_] R ⟨R,trivial⟩ ⟨R,(fun _=>R),R,(fun _=>R),R,(lrow_ren R),trivial⟩ R<|At.dr Y [2] R R (by cases H0;rfl) (by cases H0;rfl) R R R
  · cases h1
 | some a0 =>
  refine G.seq<|G.rg<|K.nilRow 100 79 (eTPart A) 4 (.inl R) g0 R R R<|K.nil<|At.ns<|G.seq<|G.rg<|K.mv R R<|K.bin (V:=.bool false) g0 R R (sn_eql Tryz.underlying40 (some a0) _ _) R<|K.nil<|At.next<|G.cond R (fun h1=>?_) (fun h1=>?_)
  · cases h1
  ·
   refine G.skip<|At.ns ?_
   obtain ⟨h2,H0⟩:=grd H0
   exact G.rg<|K.buildL Y 101 ([]:List TPart) [] [] (eTPart_len A) g0 (AllE.spec trivial) R R Tryz.underlying40 t79 R R R R R R R R<|K.mv R R<|K.appendL 102 (rV 0 S W0 (Value.slice (some a0) l0.length cap0) b0 o0 (eTPart A) 4 l0) _ el40 (hI0.is 0) (eTPart_one A) g0 R R R R R (ap_m h2) (ap_b h2 (by decide)) R R R R R R<|K.as R R<|K.nil<|At.next<|G.ret<|At.ren (fs':=[(2,.a (.c (.nv 30)))]) (tl:=[(0,rd S W0),(1,hp 1 tq A Q),(30,lrow 30 79 (eTPart A) 4 (([]:List TPart)++l0))]) [(30,102)] [_,_,_] R ⟨R,trivial⟩ ⟨R,(fun _=>R),R,(fun _=>R),R,(lrow_ren R),trivial⟩ R<|At.dr Y [2] R R (by cases H0;rfl) (by cases H0;rfl) R R R
theorem slices_Clone_con (m1 m30:Nat) (hd:ndB [m1,m30]=true):slices_Clone_st m1 m30:=fun hL_9 hL0 H0=>cnB [(1,m1),(30,m30)] hd (slices_Clone_con0 hL_9 hL0 H0)
abbrev fuse_Views_Then_st (m1 m60:Nat):Prop:=∀ {k:Nat} {S:Foot} {W0:World} {A:List (Nat→Nat)} {s0_0:Value} {Q:List TQueue} {a0:TViews} {a1:THp} {r:TViews} (hL_9:A.length=Q.length) (hL0_0:LArg S W0 s0_0 (eTPart A) 4 a0.parts) (H0:fuse_Views_Then.f k Q a0 a1=some r),SCon Tryz.prog 66 [.a (.agg [.v s0_0]),.a (.c (.v (ptr (hA A a1) 0)))] [(0,rd S W0),(m1,hp m1 tq A Q)] (.a (.agg [.nv m60])) [(0,rd S W0),(m1,hp m1 tq A Q),(m60,lrow m60 79 (eTPart A) 4 (r.parts))] [m60]
theorem fuse_Views_Then_con0:fuse_Views_Then_st 1 60:=by
 intro k S W0 A s0_0 Q a0 a1 r hL_9 hL0_0 H0
 rw [fuse_Views_Then.f] at H0
 obtain ⟨b0_0,o0_0,hI0_0⟩:=hL0_0
 obtain ⟨ao0_0,cap0_0,hE0_0,_⟩:=hI0_0.sl
 subst hE0_0
 exact M.s Tryz.func66 Tryz.ntmps66 R fun β W F=>xg 5 [100,101] R<|At.nilBlk (n:=101) (l':=[_]) 0 102 79 (eTPart A) 4 R R R R R<|xa 5 [] R<|K.bin (V:=.bool false) g0 R R (pn_eql_some Tryz.underlying60 _) R<|xk 2 [] R<|G.cond R (fun h1=>by cases h1) (fun h1=>xg 3 [] R<|M.b H0 fun x1 hx1 H0=>M.b H0 fun x2 hx2 H0=>xg 2 [] R<|kR (onQueueP 1 4 (by decide) hL_9 hx1 (partial_Queue_Present_con 1 2 3 4 5 6 7 8 9 hx2) R) R<|xk 6 [103] R<|M.b H0 fun x3 hx3 H0=>M.b H0 fun x4 hx4 H0=>M.b H0 fun x5 hx5 H0=>M.e H0 fun h2 H0=>xg 3 [] R<|K.cV (cf 94 R) [0] (fun β w S2 h=>slices_Clone_con 1 104 R hL_9 ((hI0_0.isC 0).larg ⟨_,List.mem_cons_self⟩ h) hx3) g0 (fun _=>R) R R R<|xk 1 [] R<|kR (onQueueP 1 6 (by decide) hL_9 hx4 (partial_Queue_Gone_con 1 2 3 4 5 6 7 8 9 hx5) R) R<|xk 1 [] R<|K.buildL Y 105 ([(TPart.mk (THp.mk a1.q 6) zTTook)]:List TPart) [(0,_)] [((.tmp 23),_)] (eTPart_len A) g0 (AllE.spec ⟨R,trivial⟩) R R Tryz.underlying40 t79 R R R R R R R R<|K.appendL 106 (lrowV 105 79 (eTPart A) 4 ([(TPart.mk (THp.mk a1.q 6) zTTook)]:List TPart)) _ el40 (lrowV_is (eTPart_len A) (by decide)) (eTPart_one A) g0 R R R R R (ap_m h2) (ap_b h2 (by decide)) R R R R R R<|xk 6 [107] R<|M.b H0 fun x6 hx6 H0=>M.b H0 fun x7 hx7 H0=>xg 2 [] R<|kR (onQueue 1 hL_9 hx6 (partial_Queue_Deletes_con 1 2 3 4 5 6 7 8 9 hx7) R R) R<|xk 5 [] R<|M.b H0 fun x8 hx8 H0=>xg 3 [] R<|K.cV (cf 20 R) [106] (fun β w S2 h=>fuse_Views_Len_con 1 (a0:=(TViews.mk (x3++([(TPart.mk (THp.mk a1.q 6) zTTook)]:List TPart)))) hL_9 (la 0 R (eTPart_len A) R h) hx8) g0 (fun _=>R) R R R<|xk 3 [] R<|M.c R H0 (fun h3 H0=>xg 3 [] R<|K.buildL Y 108 ([(TPart.mk (THp.mk a1.q 4) zTTook)]:List TPart) [(0,_)] [((.tmp 33),_)] (eTPart_len A) g0 (AllE.spec ⟨R,trivial⟩) R R Tryz.underlying40 t79 R R R R R R R R<|xk 6 [] R<|by cases H0;exact ZR [(60,108)]) (fun h3 H0=>xg 2 [] R<|M.b H0 fun x9 H1 H0=>M.x ([(4,.a (.c (.p 109 0))),(5,.a (.c (.p 111 0))),(6,.a (.c (.p 112 0)))]) ([(0,rd S W0),(110,lrow 110 79 (eTPart A) 4 ([]:List TPart)),(109,blk 109 [.nv 110] 42),(111,blk 111 [.v (ptr (hA A (THp.mk a1.q 4)) 0),.v (.bool false),.v (.int .i64 0),.v (.int .i64 0)] 79),(113,lrow 113 79 (eTPart A) 4 x9),(112,blk 112 [.nv 113] 42),(1,hp 1 tq A Q)]) (xg 1 [] R<|M.b H1 fun x10 hx10 H1=>xg 4 [] R<|K.cV (cf 40 R) [106] (fun β w S2 h=>fuse_Views_At_con 1 (a0:=(TViews.mk (x3++([(TPart.mk (THp.mk a1.q 6) zTTook)]:List TPart)))) hL_9 (la 0 R (eTPart_len A) R h) hx10) g0 (fun _=>R) R R R<|xk 13 [114] R<|M.c R H1 (fun h4 H1=>xg 4 [] R<|K.lenL _ (lrowV_is (eTPart_len A) (by decide)) g0 R R Tryz.underlying40 R<|xk 4 [] R<|M.l (fuse_Views_Then.l0 k Q a1 x3 x10) H1 (fun (v1,v2)=>[(4,.a (.c (.p 127 0))),(5,.a (.c (.p 129 0))),(6,.a (.c (.p 130 0))),(8,.a (.c (.p 132 0))),(45,.a (.c (.nv 131))),(46,.a (.c (.v (.int .i64 ((x3++([(TPart.mk (THp.mk a1.q 6) zTTook)]:List TPart)).length:Int))))),(47,.a (.c (.v (.int .i64 v2))))]) (fun (v1,v2)=>[(0,rd S W0),(128,lrow 128 79 (eTPart A) 4 ([]:List TPart)),(127,blk 127 [.nv 128] 42),(129,blk 129 [.v (ptr (hA A (THp.mk a1.q 4)) 0),.v (.bool false),.v (.int .i64 0),.v (.int .i64 0)] 79),(131,lrow 131 79 (eTPart A) 4 v1),(130,blk 130 [.nv 131] 42),(132,blk 132 [.v (.int .i64 x10.1.key),.v (.int .i64 x10.1.id)] 28),(1,hp 1 tq A Q)]) [(127,101),(128,102),(129,103),(130,107),(131,106),(132,114)] fun n0 (v1,v2) H1=>xg 6 [] R<|M.c R H1 (fun h5 H1=>xg 5 [] R<|M.b H1 fun x11 hx11 H1=>xg 2 [] R<|K.idxL _ _ (lrowV_is (eTPart_len A) (by decide)) (atL_get hx11) (atL_nn hx11) g0 R R R Tryz.underlying40 el40.size_run R<|K.loadSL Y _ _ 0 [_,_,_,_] [_,_,_,_] (lrowV_is (eTPart_len A) (by decide)) (atL_get hx11) g0 R R t79 R R R R R<|xk 5 [133] R<|M.b H1 fun x12 hx12 H1=>xg 6 [] R<|kR (fuse_part_raised_con 1 hL_9 hx12) R<|K.idxL _ _ (lrowV_is (eTPart_len A) (by decide)) (atL_get hx11) (atL_nn hx11) g0 R R R Tryz.underlying40 el40.size_run R<|K.storeL Y ((v2).toNat) 0 [_,_,_,_] x12 (eTPart_len A) (by decide) (atL_get hx11) g0 R R R t79 R R R R R R<|M.n<|xa 6 [] R<|M.ag H1 []) (fun h5 H1=>xg 4 [] R<|by cases H1;exact M.xd [(109,127),(110,128),(111,129),(112,130),(113,131)])) (fun h4 H1=>xg 1 [] R<|by cases H1;exact M.xd [(109,101),(110,102),(111,103),(112,107),(113,106)]))<|xg 1 [] R<|M.e H0 fun h6 H0=>xg 4 [] R<|K.buildL Y 134 ([(TPart.mk (THp.mk a1.q 4) zTTook)]:List TPart) [(0,_)] [((.tmp 62),_)] (eTPart_len A) g0 (AllE.spec ⟨R,trivial⟩) R R Tryz.underlying40 t79 R R R R R R R R<|K.appendL 135 (lrowV 134 79 (eTPart A) 4 ([(TPart.mk (THp.mk a1.q 4) zTTook)]:List TPart)) _ el40 (lrowV_is (eTPart_len A) (by decide)) (eTPart_one A) g0 R R R R R (ap_m h6) (ap_b h6 (by decide)) R R R R R R<|xk 5 [] R<|by cases H0;exact ZR [(60,135)]))
theorem fuse_Views_Then_con (m1 m60:Nat) (hd:ndB [m1,m60]=true):fuse_Views_Then_st m1 m60:=fun hL_9 hL0_0 H0=>cnB [(1,m1),(60,m60)] hd (fuse_Views_Then_con0 hL_9 hL0_0 H0)
abbrev fuse_Views_Min_st (m1:Nat):Prop:=∀ {k:Nat} {S:Foot} {W0:World} {A:List (Nat→Nat)} {s0_0:Value} {Q:List TQueue} {a0:TViews} {r:TItem×Bool} (hL_9:A.length=Q.length) (hL0_0:LArg S W0 s0_0 (eTPart A) 4 a0.parts) (H0:fuse_Views_Min.f k Q a0=some r),SCon Tryz.prog 19 [.a (.agg [.v s0_0])] [(0,rd S W0),(m1,hp m1 tq A Q)] (.tup [.agg ((eTItem r.1).map .v),.c (.v (.bool r.2))]) [(0,rd S W0),(m1,hp m1 tq A Q)] []
theorem fuse_Views_Min_con0:fuse_Views_Min_st 1:=by
 intro k S W0 A s0_0 Q a0 r hL_9 hL0_0 H0
 rw [fuse_Views_Min.f] at H0
 obtain ⟨b0_0,o0_0,hI0_0⟩:=hL0_0
 obtain ⟨ao0_0,cap0_0,hE0_0,_⟩:=hI0_0.sl
 subst hE0_0
 exact M.s Tryz.func19 Tryz.ntmps19 R fun β W F=>xg 8 [100,101] R<|M.b H0 fun x1 hx1 H0=>xg 2 [] R<|K.cV (cf 40 R) [0] (fun β w S2 h=>fuse_Views_At_con 1 (a0:=a0) hL_9 ((hI0_0.isC 0).larg ⟨_,List.mem_cons_self⟩ h) hx1) g0 (fun _=>R) R R R<|xk 7 [] R<|by cases H0;exact ZR []
theorem fuse_Views_Min_con (m1:Nat):fuse_Views_Min_st m1:=fun hL_9 hL0_0 H0=>cnA [(1,m1)] (fuse_Views_Min_con0 hL_9 hL0_0 H0)
abbrev fuse_None_st (m60:Nat):Prop:=∀ {k:Nat} {A:List (Nat→Nat)} {r:TViews} (H0:fuse_None.f k=some r),SCon Tryz.prog 65 [] [] (.a (.agg [.nv m60])) [(m60,lrow m60 79 (eTPart A) 4 (r.parts))] [m60]
theorem fuse_None_con0:fuse_None_st 60:=by
 intro k A r H0
 rw [fuse_None.f] at H0
 exact M.s Tryz.func65 Tryz.ntmps65 R fun β W F=>xg 4 [100] R<|At.nilBlk (n:=100) (l':=[_]) 0 101 79 (eTPart A) 4 R R R R R<|xa 6 [] R<|At.nilAgg (t:=1) (l':=[_]) 0 102 79 (eTPart A) 4 R R R R R<|At.nilBlk (n:=100) (l':=[_]) 0 103 79 (eTPart A) 4 R R R R R<|xa 2 [] R<|by cases H0;exact ZR [(60,103)]
theorem fuse_None_con (m60:Nat) (hd:ndB [m60]=true):fuse_None_st m60:=fun H0=>cnB [(60,m60)] hd (fuse_None_con0 H0)
abbrev past_node_size_st (m0:Nat):Prop:=∀ {k:Nat} {t0:PT TOp TQueue} {r:Int} (H0:past_node_size.f k t0=some r),SCon Tryz.prog 82 [.a (.c (.nv m0))] [(m0,ptT eTOp payQ 62 m0 t0)] (.a (.c (.v (.int .i64 r)))) [(m0,ptT eTOp payQ 62 m0 t0)] []
theorem past_node_size_con0:past_node_size_st 0:=by
 intro k t0 r H0
 rw [past_node_size.f] at H0
 exact M.s Tryz.func82 Tryz.ntmps82 R fun β W F=>xg 9 [] R<|K.eqnT (V:=t0.isNil) g0 R R R (en_eql _ Tryz.underlying56) R<|xk 2 [] R<|M.c R H0 (fun h1 H0=>xg 7 [] R<|by cases H0;exact ZR []) (fun h1 H0=>xg 3 [] R<|G.ent [(0,ptT eTOp payQ 62 0 t0)] ((100,blk 100 [.v (.int .i64 t0.op.time),.v (.bool t0.op.insert),.v (.int .i64 t0.op.item.key),.v (.int .i64 t0.op.item.id),.v (.bool t0.gone),.nv 101,.nv 102,.v (.int .i64 t0.n),.p 104 0] 62)::(101,ptT eTOp payQ 62 101 t0.lf)::(102,ptT eTOp payQ 62 102 t0.rt)::(103,eqP 100 0)::tkQueue 104 105 106 107 108 109 110 111 112 t0.q []) [100,101,102,104,105,106,107,108,109,110,111,112] (PT.open (enc:=eTOp) 0 100 101 102 103 h1 (payQ_op 104 105 106 107 108 109 110 111 112 t0.q R) R) ⟨R,trivial⟩ R R R R<|G.toP (t:=0) 103 R R<|G.toP (t:=3) 103 R R<|xg 9 [] R<|At.ent ((100,blk 100 [.v (.int .i64 t0.op.time),.v (.bool t0.op.insert),.v (.int .i64 t0.op.item.key),.v (.int .i64 t0.op.item.id),.v (.bool t0.gone),.nv 101,.nv 102,.v (.int .i64 t0.n),.p 104 0] 62)::(101,ptT eTOp payQ 62 101 t0.lf)::(102,ptT eTOp payQ 62 102 t0.rt)::(103,eqP 100 0)::tkQueue 104 105 106 107 108 109 110 111 112 t0.q []) [(0,ptT eTOp payQ 62 0 t0),(103,eqP 100 0)] [] (PT.closeE (enc:=eTOp) h1 (pc:=.p 104 0) 0 100 101 102 103 (payQ_cl 104 105 106 107 108 109 110 111 112 t0.q)) ⟨R,R,R,R,R,R,R,R,R,R,R,R,R,trivial⟩ R R R R<|At.toN (t:=0) 103 R R<|At.toN (t:=3) 103 R R<|At.toN (t:=5) 103 R R<|At.toN (t:=6) 103 R R<|by cases H0;exact ZR [])
theorem past_node_size_con (m0:Nat):past_node_size_st m0:=fun H0=>cnA [(0,m0)] (past_node_size_con0 H0)
abbrev past_node_leans_st (m0:Nat):Prop:=∀ {k:Nat} {t0:PT TOp TQueue} {r:Bool} (H0:past_node_leans.f k t0=some r),SCon Tryz.prog 81 [.a (.c (.nv m0))] [(m0,ptT eTOp payQ 62 m0 t0)] (.a (.c (.v (.bool r)))) [(m0,ptT eTOp payQ 62 m0 t0)] []
theorem past_node_leans_con0:past_node_leans_st 0:=by
 intro k t0 r H0
 rw [past_node_leans.f] at H0
 exact M.s Tryz.func81 Tryz.ntmps81 R fun β W F=>xg 6 [] R<|M.e H0 fun h1 H0=>G.ent [(0,ptT eTOp payQ 62 0 t0)] ((100,blk 100 [.v (.int .i64 t0.op.time),.v (.bool t0.op.insert),.v (.int .i64 t0.op.item.key),.v (.int .i64 t0.op.item.id),.v (.bool t0.gone),.nv 101,.nv 102,.v (.int .i64 t0.n),.p 104 0] 62)::(101,ptT eTOp payQ 62 101 t0.lf)::(102,ptT eTOp payQ 62 102 t0.rt)::(103,eqP 100 0)::tkQueue 104 105 106 107 108 109 110 111 112 t0.q []) [100,101,102,104,105,106,107,108,109,110,111,112] (PT.open (enc:=eTOp) 0 100 101 102 103 (of_decide_eq_true (decide_eq_true h1)) (payQ_op 104 105 106 107 108 109 110 111 112 t0.q R) R) ⟨R,trivial⟩ R R R R<|G.toP (t:=0) 103 R R<|M.b H0 fun x1 hx1 H0=>M.b H0 fun x2 hx2 H0=>xg 5 [] R<|kR (past_node_size_con 101 hx1) R<|xd 4 [] R<|kR (past_node_size_con 102 hx2) R<|K.bi2 (V:=.int .i64 (gmax x1 x2)) g0 R R (fun _ _=>R) R<|xd 9 [] R<|M.n<|xa 2 [] R<|At.ent ((100,blk 100 [.v (.int .i64 t0.op.time),.v (.bool t0.op.insert),.v (.int .i64 t0.op.item.key),.v (.int .i64 t0.op.item.id),.v (.bool t0.gone),.nv 101,.nv 102,.v (.int .i64 t0.n),.p 104 0] 62)::(101,ptT eTOp payQ 62 101 t0.lf)::(102,ptT eTOp payQ 62 102 t0.rt)::(103,eqP 100 0)::tkQueue 104 105 106 107 108 109 110 111 112 t0.q []) [(0,ptT eTOp payQ 62 0 t0),(103,eqP 100 0)] [] (PT.closeE (enc:=eTOp) (of_decide_eq_true (decide_eq_true h1)) (pc:=.p 104 0) 0 100 101 102 103 (payQ_cl 104 105 106 107 108 109 110 111 112 t0.q)) ⟨R,R,R,R,R,R,R,R,R,R,R,R,R,trivial⟩ R R R R<|At.toN (t:=0) 103 R R<|At.toN (t:=3) 103 R R<|At.toN (t:=4) 103 R R<|At.toN (t:=8) 103 R R<|At.toN (t:=9) 103 R R<|At.toN (t:=15) 103 R R<|At.toN (t:=16) 103 R R<|by cases H0;exact ZR []
theorem past_node_leans_con (m0:Nat):past_node_leans_st m0:=fun H0=>cnA [(0,m0)] (past_node_leans_con0 H0)
abbrev past_add_st (m0 m1 m2 m3 m4 m5 m6 m7 m8:Nat):Prop:=∀ {k:Nat} {q0:TQueue} {a1:TOp} {r:Int×TQueue} (H0:past_add.f k q0 a1=some r),SCon Tryz.prog 53 [SV.p m0 0,.a (.agg ((eTOp a1).map .v))] (tkQueue m0 m1 m2 m3 m4 m5 m6 m7 m8 q0 []) (.a (.c (.v (.int .i64 r.1)))) (tkQueue m0 m1 m2 m3 m4 m5 m6 m7 m8 r.2 []) []
theorem past_add_con0:past_add_st 0 1 2 3 4 5 6 7 8:=by
 intro k q0 a1 r H0
 rw [past_add.f] at H0
 exact M.s Tryz.func53 Tryz.ntmps53 R fun β W F=>xg 18 [100] R<|M.c R H0 (fun h1 H0=>M.b H0 fun x1 hx1 H0=>xg 6 [] R<|k0 (partial_Queue_Insert_con 0 1 2 3 4 5 6 7 8 101 102 R hx1) R<|xk 13 [] R<|by cases H0;exact ZR []) (fun h1 H0=>M.b H0 fun x2 hx2 H0=>xg 4 [] R<|k0 (partial_Queue_Delete_con 0 1 2 3 4 5 6 7 8 103 104 R hx2) R<|xk 13 [] R<|by cases H0;exact ZR [])
theorem past_add_con (m0 m1 m2 m3 m4 m5 m6 m7 m8:Nat):past_add_st m0 m1 m2 m3 m4 m5 m6 m7 m8:=fun H0=>cnA [(0,m0),(1,m1),(2,m2),(3,m3),(4,m4),(5,m5),(6,m6),(7,m7),(8,m8)] (past_add_con0 H0)
abbrev past_Past_queue_st (m1 m80 m81 m82 m83 m84 m85 m86 m87 m88 m2:Nat):Prop:=∀ {k:Nat} {S:Foot} {W0:World} {s1:Value} {a0:Int} {l1:List TOp} {r:TQueue} (hL1:LArg S W0 s1 eTOp 4 l1) (H0:past_Past_queue.f k a0 l1=some r),SCon Tryz.prog 52 [SV.p m1 0,SV.raw s1] [(0,rd S W0),(m1,blk m1 [.v (.int .i64 a0),.nv m2] 58)] (.a (.c (.p m80 0))) ((0,rd S W0)::((m1,blk m1 [.v (.int .i64 a0),.nv m2] 58)::(tkQueue m80 m81 m82 m83 m84 m85 m86 m87 m88 r []))) [m80,m81,m82,m83,m84,m85,m86,m87,m88]
theorem past_Past_queue_con0:past_Past_queue_st 1 80 81 82 83 84 85 86 87 88 2:=by
 intro k S W0 s1 a0 l1 r hL1 H0
 rw [past_Past_queue.f] at H0
 obtain ⟨b1,o1,hI1⟩:=hL1
 exact M.s Tryz.func52 Tryz.ntmps52 R fun β W F=>xg 6 [] R<|M.b H0 fun x1 hx1 H0=>xg 5 [] R<|k0 (partial_New_con 100 101 102 103 104 105 106 107 108 R hx1) R<|xk 3 [] R<|M.b H0 fun x2 H1 H0=>M.x ([(5,.a (.c (.p 109 0)))]) (((0,rd S W0)::(tkQueue 109 110 111 112 113 114 115 116 117 x2 [(1,blk 1 [.v (.int .i64 a0),.nv 2] 58)]))) (xg 3 [] R<|K.lenL _ (hI1.is 0) g0 R R Tryz.underlying34 R<|xk 4 [] R<|M.l (past_Past_queue.l0 k l1) H1 (fun (v1,v2)=>[(5,.a (.c (.p 136 0))),(13,SV.raw s1),(14,.a (.c (.v (.int .i64 (l1.length:Int))))),(15,.a (.c (.v (.int .i64 v2))))]) (fun (v1,v2)=>((0,rd S W0)::(tkQueue 136 137 138 139 140 141 142 143 144 v1 [(1,blk 1 [.v (.int .i64 a0),.nv 2] 58)]))) [(136,100),(137,101),(138,102),(139,103),(140,104),(141,105),(142,106),(143,107),(144,108)] fun n0 (v1,v2) H1=>xg 6 [] R<|M.c R H1 (fun h1 H1=>xg 5 [] R<|M.b H1 fun x3 hx3 H1=>xg 1 [] R<|K.idxL _ _ (hI1.is 0) (atL_get hx3) (atL_nn hx3) g0 R R R Tryz.underlying34 el34.size_run R<|K.loadSL Y _ _ 0 [_,_,_,_] [_,_,_,_] (hI1.is 0) (atL_get hx3) g0 R R t45 R R R R R<|xk 4 [145] R<|M.b H1 fun x4 hx4 H1=>xg 3 [] R<|k0 (past_add_con 136 137 138 139 140 141 142 143 144 hx4) R<|xk 7 [] R<|M.ag H1 []) (fun h1 H1=>xg 4 [] R<|by cases H1;exact M.xd [(109,136),(110,137),(111,138),(112,139),(113,140),(114,141),(115,142),(116,143),(117,144)]))<|xg 7 [] R<|by cases H0;exact ZR [(80,109),(81,110),(82,111),(83,112),(84,113),(85,114),(86,115),(87,116),(88,117)]
theorem past_Past_queue_con (m1 m80 m81 m82 m83 m84 m85 m86 m87 m88 m2:Nat) (hd:ndB [m1,m80,m81,m82,m83,m84,m85,m86,m87,m88,m2]=true):past_Past_queue_st m1 m80 m81 m82 m83 m84 m85 m86 m87 m88 m2:=fun hL1 H0=>cnB [(1,m1),(80,m80),(81,m81),(82,m82),(83,m83),(84,m84),(85,m85),(86,m86),(87,m87),(88,m88),(2,m2)] hd (past_Past_queue_con0 hL1 H0)
abbrev past_Past_build_st (k n m1 m30 m2:Nat):Prop:=∀ {S:Foot} {W0:World} {s1:Value} {a0:Int} {l1:List TOp} {r:PT TOp TQueue} (hL1:LArg S W0 s1 eTOp 4 l1) (H0:past_Past_build.r k n a0 l1=some r),SCon Tryz.prog 32 [SV.p m1 0,SV.raw s1] [(0,rd S W0),(m1,blk m1 [.v (.int .i64 a0),.nv m2] 58)] (.a (.c (.nv m30))) [(0,rd S W0),(m1,blk m1 [.v (.int .i64 a0),.nv m2] 58),(m30,ptT eTOp payQ 62 m30 r)] [m30]
theorem past_Past_build_con0 {k:Nat} : ∀ {n:Nat},past_Past_build_st k n 1 30 2:=by
 intro n
 induction n with
 | zero => intro S W0 s1 a0 l1 r hL1 H0; exact absurd H0 (by simp [past_Past_build.r])
 | succ n ih =>
  intro S W0 s1 a0 l1 r hL1 H0
  rw [past_Past_build.r] at H0
  obtain ⟨b1,o1,hI1⟩:=hL1
  exact M.s Tryz.func32 Tryz.ntmps32 R fun β W F=>xg 9 [] R<|K.lenL _ (hI1.is 0) g0 R R Tryz.underlying34 R<|xk 3 [] R<|M.c R H0 (fun h1 H0=>xg 7 [] R<|At.ent [] [(100,ptT eTOp payQ 62 100 (PT.nil:PT TOp TQueue))] [100] (PT.nilT 100) trivial R R R R<|At.nilN (t:=4) (k:=100) (enc:=eTOp) (pay:=payQ) (ω:=TOp) (α:=TQueue) R R<|by cases H0;exact ZR [(30,100)]) (fun h1 H0=>xg 5 [] R<|K.lenL _ (hI1.is 0) g0 R R Tryz.underlying34 R<|K.bin (V:=.int .i64 (w64 ((l1.length:Int).tdiv 2))) g0 R R (quo_run (by decide)) R<|xk 4 [] R<|M.b H0 fun x1 hx1 H0=>M.e H0 fun h2 H0=>M.b H0 fun x2 hx2 H0=>M.e H0 fun h4 H0=>M.b H0 fun x3 hx3 H0=>M.b H0 fun x4 hx4 H0=>xg 3 [] R<|K.idxL _ _ (hI1.is 0) (atL_get hx1) (atL_nn hx1) g0 R R R Tryz.underlying34 el34.size_run R<|K.loadSL Y _ _ 0 [_,_,_,_] [_,_,_,_] (hI1.is 0) (atL_get hx1) g0 R R t45 R R R R R<|xd 3 [] R<|K.partR 0 (((w64 ((l1.length:Int).tdiv 2))).toNat) hI1 g0 R .no (.at_ R h2.1 R) Tryz.underlying34 el34.size_run (Nat.zero_le _) (tn_len h2.2) R<|K.cV (cf 32 R) [0] (fun β w S2 h=>SCon.ren (ti':=[(0,_),(1,_)]) (to':=[(0,_),(1,_),(101,_)]) (rn [(1,1),(30,101),(2,2)]) (ih (((hI1.part (Nat.zero_le _) (tn_len h2.2)).isC 0).larg ⟨_,List.mem_cons_self⟩ h) hx2) ⟨(fun _=>R),(blk_ren R R),trivial⟩ ⟨(fun _=>R),(blk_ren R R),(ptT_ren R),trivial⟩ (rn_nd (hd_ [1,101,2] R) R R) (rn_ks (hd_ [1,101,2] R) R R R)) g0 (fun _=>R) R R R<|xd 4 [] R<|K.partR (((w64 ((w64 ((l1.length:Int).tdiv 2))+1))).toNat) l1.length hI1 g0 R (.at_ R h4.1 R) .no Tryz.underlying34 el34.size_run (tn_len h4.2) (Nat.le_refl _) R<|K.cV (cf 32 R) [0] (fun β w S2 h=>SCon.ren (ti':=[(0,_),(1,_)]) (to':=[(0,_),(1,_),(102,_)]) (rn [(1,1),(30,102),(2,2)]) (ih (((hI1.part (tn_len h4.2) (Nat.le_refl _)).isC 0).larg ⟨_,List.mem_cons_self⟩ h) hx3) ⟨(fun _=>R),(blk_ren R R),trivial⟩ ⟨(fun _=>R),(blk_ren R R),(ptT_ren R),trivial⟩ (rn_nd (hd_ [1,102,2] R) R R) (rn_ks (hd_ [1,102,2] R) R R R)) g0 (fun _=>R) R R R<|xd 1 [] R<|K.lenL _ (hI1.is 0) g0 R R Tryz.underlying34 R<|xd 2 [] R<|K.cV (cf 52 R) [0] (fun β w S2 h=>past_Past_queue_con 1 103 104 105 106 107 108 109 110 111 2 R ((hI1.isC 0).larg ⟨_,List.mem_cons_self⟩ h) hx4) g0 (fun _=>R) R R R<|xd 3 [112] R<|M.n<|xa 2 [] R<|At.ent ((112,blk 112 [.v (.int .i64 x1.time),.v (.bool x1.insert),.v (.int .i64 x1.item.key),.v (.int .i64 x1.item.id),.v (.bool false),.nv 101,.nv 102,.v (.int .i64 (l1.length:Int)),.p 103 0] 62)::(101,ptT eTOp payQ 62 101 x2)::(102,ptT eTOp payQ 62 102 x3)::tkQueue 103 104 105 106 107 108 109 110 111 x4 []) [(114,ptT eTOp payQ 62 114 (PT.node x1 false x2 x3 (l1.length:Int) x4)),(113,eqP 112 114)] [114] (PT.close0 (enc:=eTOp) (op:=x1) (g:=false) (n:=(l1.length:Int)) (pc:=.p 103 0) 114 112 101 102 113 (payQ_cl 103 104 105 106 107 108 109 110 111 x4) R) ⟨R,R,R,R,R,R,R,R,R,R,R,R,trivial⟩ R R R R<|At.toN (t:=4) 113 R R<|At.toN (t:=33) 113 R R<|by cases H0;exact ZR [(30,114)])
theorem past_Past_build_con {k n:Nat} (m1 m30 m2:Nat) (hd:ndB [m1,m30,m2]=true):past_Past_build_st k n m1 m30 m2:=fun hL1 H0=>cnB [(1,m1),(30,m30),(2,m2)] hd (past_Past_build_con0 hL1 H0)
abbrev past_Past_put_st (k n m2 m0 m30 m1:Nat):Prop:=∀ {a0:Int} {t1:PT TOp TQueue} {a2:TOp} {r:PT TOp TQueue} (H0:past_Past_put.r k n a0 t1 a2=some r),SCon Tryz.prog 55 [SV.p m0 0,.a (.c (.nv m2)),.a (.agg ((eTOp a2).map .v))] [(m2,ptT eTOp payQ 62 m2 t1),(m0,blk m0 [.v (.int .i64 a0),.nv m1] 58)] (.a (.c (.nv m30))) [(m0,blk m0 [.v (.int .i64 a0),.nv m1] 58),(m30,ptT eTOp payQ 62 m30 r)] [m30]
set_option maxHeartbeats 4000000 in
theorem past_Past_put_con0 {k:Nat} : ∀ {n:Nat},past_Past_put_st k n 2 0 30 1:=by
 intro n
 induction n with
 | zero => intro a0 t1 a2 r H0; exact absurd H0 (by simp [past_Past_put.r])
 | succ n ih =>
  intro a0 t1 a2 r H0
  rw [past_Past_put.r] at H0
  exact M.s Tryz.func55 Tryz.ntmps55 R fun β W F=>xg 10 [100] R<|K.eqnT (V:=t1.isNil) g0 R R R (en_eql _ Tryz.underlying56) R<|xk 2 [] R<|M.c R H0 (fun h1 H0=>xg 1 [] R<|M.b H0 fun x1 hx1 H0=>xg 3 [] R<|K.buildL Y 101 ([a2]:List TOp) [(0,_)] [((.tmp 10),_)] eTOp_len g0 (AllE.spec ⟨R,trivial⟩) R R Tryz.underlying34 t45 R R R R R R R R<|K.cV (cf 32 R) [101] (fun β w S2 h=>past_Past_build_con 0 102 1 R (la 0 R eTOp_len R h) hx1) g0 (fun _=>R) R R R<|xk 5 [] R<|by cases H0;exact ZR [(30,102)]) (fun h1 H0=>xg 3 [] R<|G.ent [(2,ptT eTOp payQ 62 2 t1)] ((103,blk 103 [.v (.int .i64 t1.op.time),.v (.bool t1.op.insert),.v (.int .i64 t1.op.item.key),.v (.int .i64 t1.op.item.id),.v (.bool t1.gone),.nv 104,.nv 105,.v (.int .i64 t1.n),.p 107 0] 62)::(104,ptT eTOp payQ 62 104 t1.lf)::(105,ptT eTOp payQ 62 105 t1.rt)::(106,eqP 103 2)::tkQueue 107 108 109 110 111 112 113 114 115 t1.q []) [103,104,105,107,108,109,110,111,112,113,114,115] (PT.open (enc:=eTOp) 2 103 104 105 106 h1 (payQ_op 107 108 109 110 111 112 113 114 115 t1.q R) R) ⟨R,trivial⟩ R R R R<|G.toP (t:=1) 106 R R<|G.toP (t:=7) 106 R R<|M.b H0 fun x2 hx2 H0=>xg 6 [] R<|k0 (past_add_con 107 108 109 110 111 112 113 114 115 hx2) R<|M.n<|xa 14 [] R<|M.n<|xa 1 [] R<|M.c R H0 (fun h2 H0=>M.b H0 fun x3 hx3 H0=>xg 8 [] R<|K.cC (cf 55 R) [] (fun β w S2 h=>SCon.rd0 (SCon.ren (ti':=[(104,_),(0,_)]) (to':=[(0,_),(116,_)]) (rn [(2,104),(0,0),(30,116),(1,1)]) (ih  hx3) ⟨(ptT_ren R),(blk_ren R R),trivial⟩ ⟨(blk_ren R R),(ptT_ren R),trivial⟩ (rn_nd (hd_ [104,0,116,1] R) R R) (rn_ks (hd_ [104,0,116,1] R) R R R)) S2 w h) g0 (fun _=>R) R R R<|xd 3 [] R<|M.n<|xa 3 [] R<|M.b H0 fun x4 hx4 H0=>M.b H0 fun x5 hx5 H0=>xg 6 [] R<|kR (past_node_size_con 116 hx4) R<|xd 5 [] R<|kR (past_node_size_con 105 hx5) R<|xd 4 [] R<|M.n<|xa 8 [] R<|At.ent ((103,blk 103 [.v (.int .i64 t1.op.time),.v (.bool t1.op.insert),.v (.int .i64 t1.op.item.key),.v (.int .i64 t1.op.item.id),.v (.bool t1.gone),.nv 116,.nv 105,.v (.int .i64 (w64 ((w64 (x4+1))+x5))),.p 107 0] 62)::(116,ptT eTOp payQ 62 116 x3)::(105,ptT eTOp payQ 62 105 t1.rt)::(106,eqP 103 2)::tkQueue 107 108 109 110 111 112 113 114 115 x2.2 []) [(2,ptT eTOp payQ 62 2 (PT.node t1.op t1.gone x3 t1.rt (w64 ((w64 (x4+1))+x5)) x2.2)),(106,eqP 103 2)] [] (PT.close (enc:=eTOp) (op:=t1.op) (g:=t1.gone) (n:=(w64 ((w64 (x4+1))+x5))) (pc:=.p 107 0) 2 103 116 105 106 (payQ_cl 107 108 109 110 111 112 113 114 115 x2.2)) ⟨R,R,R,R,R,R,R,R,R,R,R,R,R,trivial⟩ R R R R<|At.toN (t:=1) 106 R R<|At.toN (t:=6) 106 R R<|At.toN (t:=7) 106 R R<|At.toN (t:=13) 106 R R<|At.toN (t:=14) 106 R R<|At.toN (t:=29) 106 R R<|At.toN (t:=30) 106 R R<|At.toN (t:=31) 106 R R<|At.toN (t:=32) 106 R R<|At.toN (t:=35) 106 R R<|At.toN (t:=37) 106 R R<|At.toN (t:=38) 106 R R<|At.toN (t:=43) 106 R R<|At.toN (t:=64) 106 R R<|At.toN (t:=65) 106 R R<|At.toN (t:=66) 106 R R<|At.toN (t:=71) 106 R R<|At.toN (t:=72) 106 R R<|At.toN (t:=77) 106 R R<|At.toN (t:=79) 106 R R<|by cases H0;exact ZR [(30,2)]) (fun h2 H0=>xg 11 [] R<|M.n<|xa 1 [] R<|M.c R H0 (fun h3 H0=>M.b H0 fun x6 hx6 H0=>xg 8 [] R<|K.cC (cf 55 R) [] (fun β w S2 h=>SCon.rd0 (SCon.ren (ti':=[(105,_),(0,_)]) (to':=[(0,_),(117,_)]) (rn [(2,105),(0,0),(30,117),(1,1)]) (ih  hx6) ⟨(ptT_ren R),(blk_ren R R),trivial⟩ ⟨(blk_ren R R),(ptT_ren R),trivial⟩ (rn_nd (hd_ [105,0,117,1] R) R R) (rn_ks (hd_ [105,0,117,1] R) R R R)) S2 w h) g0 (fun _=>R) R R R<|xd 3 [] R<|M.n<|xa 3 [] R<|M.b H0 fun x7 hx7 H0=>M.b H0 fun x8 hx8 H0=>xg 6 [] R<|kR (past_node_size_con 104 hx7) R<|xd 5 [] R<|kR (past_node_size_con 117 hx8) R<|xd 4 [] R<|M.n<|xa 8 [] R<|At.ent ((103,blk 103 [.v (.int .i64 t1.op.time),.v (.bool t1.op.insert),.v (.int .i64 t1.op.item.key),.v (.int .i64 t1.op.item.id),.v (.bool t1.gone),.nv 104,.nv 117,.v (.int .i64 (w64 ((w64 (x7+1))+x8))),.p 107 0] 62)::(104,ptT eTOp payQ 62 104 t1.lf)::(117,ptT eTOp payQ 62 117 x6)::(106,eqP 103 2)::tkQueue 107 108 109 110 111 112 113 114 115 x2.2 []) [(2,ptT eTOp payQ 62 2 (PT.node t1.op t1.gone t1.lf x6 (w64 ((w64 (x7+1))+x8)) x2.2)),(106,eqP 103 2)] [] (PT.close (enc:=eTOp) (op:=t1.op) (g:=t1.gone) (n:=(w64 ((w64 (x7+1))+x8))) (pc:=.p 107 0) 2 103 104 117 106 (payQ_cl 107 108 109 110 111 112 113 114 115 x2.2)) ⟨R,R,R,R,R,R,R,R,R,R,R,R,R,trivial⟩ R R R R<|At.toN (t:=1) 106 R R<|At.toN (t:=6) 106 R R<|At.toN (t:=7) 106 R R<|At.toN (t:=13) 106 R R<|At.toN (t:=14) 106 R R<|At.toN (t:=29) 106 R R<|At.toN (t:=30) 106 R R<|At.toN (t:=31) 106 R R<|At.toN (t:=32) 106 R R<|At.toN (t:=48) 106 R R<|At.toN (t:=49) 106 R R<|At.toN (t:=50) 106 R R<|At.toN (t:=51) 106 R R<|At.toN (t:=54) 106 R R<|At.toN (t:=56) 106 R R<|At.toN (t:=57) 106 R R<|At.toN (t:=62) 106 R R<|At.toN (t:=64) 106 R R<|At.toN (t:=65) 106 R R<|At.toN (t:=66) 106 R R<|At.toN (t:=71) 106 R R<|At.toN (t:=72) 106 R R<|At.toN (t:=77) 106 R R<|At.toN (t:=79) 106 R R<|by cases H0;exact ZR [(30,2)]) (fun h3 H0=>xg 14 [] R<|M.b H0 fun x9 hx9 H0=>M.b H0 fun x10 hx10 H0=>xg 6 [] R<|kR (past_node_size_con 104 hx9) R<|xd 5 [] R<|kR (past_node_size_con 105 hx10) R<|xd 4 [] R<|M.n<|xa 8 [] R<|At.ent ((103,blk 103 [.v (.int .i64 a2.time),.v (.bool a2.insert),.v (.int .i64 a2.item.key),.v (.int .i64 a2.item.id),.v (.bool false),.nv 104,.nv 105,.v (.int .i64 (w64 ((w64 (x9+1))+x10))),.p 107 0] 62)::(104,ptT eTOp payQ 62 104 t1.lf)::(105,ptT eTOp payQ 62 105 t1.rt)::(106,eqP 103 2)::tkQueue 107 108 109 110 111 112 113 114 115 x2.2 []) [(2,ptT eTOp payQ 62 2 (PT.node a2 false t1.lf t1.rt (w64 ((w64 (x9+1))+x10)) x2.2)),(106,eqP 103 2)] [] (PT.close (enc:=eTOp) (op:=a2) (g:=false) (n:=(w64 ((w64 (x9+1))+x10))) (pc:=.p 107 0) 2 103 104 105 106 (payQ_cl 107 108 109 110 111 112 113 114 115 x2.2)) ⟨R,R,R,R,R,R,R,R,R,R,R,R,R,trivial⟩ R R R R<|At.toN (t:=1) 106 R R<|At.toN (t:=6) 106 R R<|At.toN (t:=7) 106 R R<|At.toN (t:=13) 106 R R<|At.toN (t:=14) 106 R R<|At.toN (t:=19) 106 R R<|At.toN (t:=20) 106 R R<|At.toN (t:=22) 106 R R<|At.toN (t:=23) 106 R R<|At.toN (t:=24) 106 R R<|At.toN (t:=29) 106 R R<|At.toN (t:=30) 106 R R<|At.toN (t:=31) 106 R R<|At.toN (t:=32) 106 R R<|At.toN (t:=48) 106 R R<|At.toN (t:=49) 106 R R<|At.toN (t:=50) 106 R R<|At.toN (t:=51) 106 R R<|At.toN (t:=64) 106 R R<|At.toN (t:=65) 106 R R<|At.toN (t:=66) 106 R R<|At.toN (t:=71) 106 R R<|At.toN (t:=72) 106 R R<|At.toN (t:=77) 106 R R<|At.toN (t:=79) 106 R R<|by cases H0;exact ZR [(30,2)])))
theorem past_Past_put_con {k n:Nat} (m2 m0 m30 m1:Nat) (hd:frOk [m30] [m2,m0,m1]=true):past_Past_put_st k n m2 m0 m30 m1:=fun H0=>SCon.ren (rn [(2,m2),(0,m0),(30,m30),(1,m1)]) (past_Past_put_con0    H0) ⟨(ptT_ren rfl),(blk_ren rfl rfl),trivial⟩ ⟨(blk_ren rfl rfl),(ptT_ren rfl),trivial⟩ (rn_nd2 (olds:=[2,0,1]) hd) (rn_ks2 (olds:=[2,0,1]) hd rfl)
abbrev past_Past_even_st (k n m2 m0 m30 m1:Nat):Prop:=∀ {a0:Int} {t1:PT TOp TQueue} {a2:Int} {r:PT TOp TQueue} (H0:past_Past_even.r k n a0 t1 a2=some r),SCon Tryz.prog 54 [SV.p m0 0,.a (.c (.nv m2)),.a (.c (.v (.int .i64 a2)))] [(m2,ptT eTOp payQ 62 m2 t1),(m0,blk m0 [.v (.int .i64 a0),.nv m1] 58)] (.a (.c (.nv m30))) [(m0,blk m0 [.v (.int .i64 a0),.nv m1] 58),(m30,ptT eTOp payQ 62 m30 r)] [m30]
theorem past_Past_even_con0 {k:Nat} : ∀ {n:Nat},past_Past_even_st k n 2 0 30 1:=by
 intro n
 induction n with
 | zero => intro a0 t1 a2 r H0; exact absurd H0 (by simp [past_Past_even.r])
 | succ n ih =>
  intro a0 t1 a2 r H0
  rw [past_Past_even.r] at H0
  exact M.s Tryz.func54 Tryz.ntmps54 R fun β W F=>xg 10 [] R<|K.eqnT (V:=t1.isNil) g0 R R R (en_eql _ Tryz.underlying56) R<|xk 3 [] R<|M.c R H0 (fun h1 H0=>xg 8 [] R<|At.ent [] [(100,ptT eTOp payQ 62 100 (PT.nil:PT TOp TQueue))] [100] (PT.nilT 100) trivial R R R R<|At.nilN (t:=6) (k:=100) (enc:=eTOp) (pay:=payQ) (ω:=TOp) (α:=TQueue) R R<|by cases H0;exact ZR [(30,100)]) (fun h1 H0=>xg 1 [] R<|M.b H0 fun x1 hx1 H0=>xg 2 [] R<|kR (past_node_leans_con 2 hx1) R<|xk 3 [] R<|M.c R H0 (fun h2 H0=>xg 1 [] R<|G.ent [(2,ptT eTOp payQ 62 2 t1)] ((101,blk 101 [.v (.int .i64 t1.op.time),.v (.bool t1.op.insert),.v (.int .i64 t1.op.item.key),.v (.int .i64 t1.op.item.id),.v (.bool t1.gone),.nv 102,.nv 103,.v (.int .i64 t1.n),.p 105 0] 62)::(102,ptT eTOp payQ 62 102 t1.lf)::(103,ptT eTOp payQ 62 103 t1.rt)::(104,eqP 101 2)::tkQueue 105 106 107 108 109 110 111 112 113 t1.q []) [101,102,103,105,106,107,108,109,110,111,112,113] (PT.open (enc:=eTOp) 2 101 102 103 104 h1 (payQ_op 105 106 107 108 109 110 111 112 113 t1.q R) R) ⟨R,trivial⟩ R R R R<|G.toP (t:=1) 104 R R<|G.toP (t:=18) 104 R R<|G.toP (t:=21) 104 R R<|M.b H0 fun x2 hx2 H0=>M.b H0 fun x3 hx3 H0=>xg 6 [] R<|k0 (partial_Queue_Ops_con 105 106 107 108 109 110 111 112 113 114 R hx2) R<|K.cV (cf 32 R) [114] (fun β w S2 h=>past_Past_build_con 0 115 1 R (la 0 R eTOp_len R h) hx3) g0 (fun _=>R) R R R<|xk 6 [] R<|At.ent ((101,blk 101 [.v (.int .i64 t1.op.time),.v (.bool t1.op.insert),.v (.int .i64 t1.op.item.key),.v (.int .i64 t1.op.item.id),.v (.bool t1.gone),.nv 102,.nv 103,.v (.int .i64 t1.n),.p 105 0] 62)::(102,ptT eTOp payQ 62 102 t1.lf)::(103,ptT eTOp payQ 62 103 t1.rt)::(104,eqP 101 2)::tkQueue 105 106 107 108 109 110 111 112 113 t1.q []) [(2,ptT eTOp payQ 62 2 t1),(104,eqP 101 2)] [] (PT.closeE (enc:=eTOp) h1 (pc:=.p 105 0) 2 101 102 103 104 (payQ_cl 105 106 107 108 109 110 111 112 113 t1.q)) ⟨R,R,R,R,R,R,R,R,R,R,R,R,R,trivial⟩ R R R R<|At.toN (t:=1) 104 R R<|At.toN (t:=18) 104 R R<|At.toN (t:=21) 104 R R<|At.toN (t:=24) 104 R R<|At.toN (t:=25) 104 R R<|by cases H0;exact ZR [(30,115)]) (fun h2 H0=>xg 1 [] R<|G.ent [(2,ptT eTOp payQ 62 2 t1)] ((116,blk 116 [.v (.int .i64 t1.op.time),.v (.bool t1.op.insert),.v (.int .i64 t1.op.item.key),.v (.int .i64 t1.op.item.id),.v (.bool t1.gone),.nv 117,.nv 118,.v (.int .i64 t1.n),.p 120 0] 62)::(117,ptT eTOp payQ 62 117 t1.lf)::(118,ptT eTOp payQ 62 118 t1.rt)::(119,eqP 116 2)::tkQueue 120 121 122 123 124 125 126 127 128 t1.q []) [116,117,118,120,121,122,123,124,125,126,127,128] (PT.open (enc:=eTOp) 2 116 117 118 119 h1 (payQ_op 120 121 122 123 124 125 126 127 128 t1.q R) R) ⟨R,trivial⟩ R R R R<|G.toP (t:=1) 119 R R<|G.toP (t:=18) 119 R R<|G.toP (t:=21) 119 R R<|xg 11 [] R<|M.c R H0 (fun h3 H0=>M.b H0 fun x4 hx4 H0=>xg 8 [] R<|K.cC (cf 54 R) [] (fun β w S2 h=>SCon.rd0 (SCon.ren (ti':=[(117,_),(0,_)]) (to':=[(0,_),(129,_)]) (rn [(2,117),(0,0),(30,129),(1,1)]) (ih  hx4) ⟨(ptT_ren R),(blk_ren R R),trivial⟩ ⟨(blk_ren R R),(ptT_ren R),trivial⟩ (rn_nd (hd_ [117,0,129,1] R) R R) (rn_ks (hd_ [117,0,129,1] R) R R R)) S2 w h) g0 (fun _=>R) R R R<|xk 7 [] R<|M.b H0 fun x5 hx5 H0=>M.b H0 fun x6 hx6 H0=>xg 6 [] R<|kR (past_node_size_con 129 hx5) R<|xd 5 [] R<|kR (past_node_size_con 118 hx6) R<|xd 4 [] R<|M.n<|xa 8 [] R<|At.ent ((116,blk 116 [.v (.int .i64 t1.op.time),.v (.bool t1.op.insert),.v (.int .i64 t1.op.item.key),.v (.int .i64 t1.op.item.id),.v (.bool t1.gone),.nv 129,.nv 118,.v (.int .i64 (w64 ((w64 (x5+1))+x6))),.p 120 0] 62)::(129,ptT eTOp payQ 62 129 x4)::(118,ptT eTOp payQ 62 118 t1.rt)::(119,eqP 116 2)::tkQueue 120 121 122 123 124 125 126 127 128 t1.q []) [(2,ptT eTOp payQ 62 2 (PT.node t1.op t1.gone x4 t1.rt (w64 ((w64 (x5+1))+x6)) t1.q)),(119,eqP 116 2)] [] (PT.close (enc:=eTOp) (op:=t1.op) (g:=t1.gone) (n:=(w64 ((w64 (x5+1))+x6))) (pc:=.p 120 0) 2 116 129 118 119 (payQ_cl 120 121 122 123 124 125 126 127 128 t1.q)) ⟨R,R,R,R,R,R,R,R,R,R,R,R,R,trivial⟩ R R R R<|At.toN (t:=1) 119 R R<|At.toN (t:=6) 119 R R<|At.toN (t:=18) 119 R R<|At.toN (t:=21) 119 R R<|At.toN (t:=32) 119 R R<|At.toN (t:=33) 119 R R<|At.toN (t:=34) 119 R R<|At.toN (t:=35) 119 R R<|At.toN (t:=38) 119 R R<|At.toN (t:=40) 119 R R<|At.toN (t:=41) 119 R R<|At.toN (t:=46) 119 R R<|At.toN (t:=48) 119 R R<|At.toN (t:=49) 119 R R<|At.toN (t:=50) 119 R R<|At.toN (t:=55) 119 R R<|At.toN (t:=56) 119 R R<|At.toN (t:=61) 119 R R<|At.toN (t:=63) 119 R R<|by cases H0;exact ZR [(30,2)]) (fun h3 H0=>M.b H0 fun x7 hx7 H0=>xg 8 [] R<|K.cC (cf 54 R) [] (fun β w S2 h=>SCon.rd0 (SCon.ren (ti':=[(118,_),(0,_)]) (to':=[(0,_),(130,_)]) (rn [(2,118),(0,0),(30,130),(1,1)]) (ih  hx7) ⟨(ptT_ren R),(blk_ren R R),trivial⟩ ⟨(blk_ren R R),(ptT_ren R),trivial⟩ (rn_nd (hd_ [118,0,130,1] R) R R) (rn_ks (hd_ [118,0,130,1] R) R R R)) S2 w h) g0 (fun _=>R) R R R<|xk 7 [] R<|M.b H0 fun x8 hx8 H0=>M.b H0 fun x9 hx9 H0=>xg 6 [] R<|kR (past_node_size_con 117 hx8) R<|xd 5 [] R<|kR (past_node_size_con 130 hx9) R<|xd 4 [] R<|M.n<|xa 8 [] R<|At.ent ((116,blk 116 [.v (.int .i64 t1.op.time),.v (.bool t1.op.insert),.v (.int .i64 t1.op.item.key),.v (.int .i64 t1.op.item.id),.v (.bool t1.gone),.nv 117,.nv 130,.v (.int .i64 (w64 ((w64 (x8+1))+x9))),.p 120 0] 62)::(117,ptT eTOp payQ 62 117 t1.lf)::(130,ptT eTOp payQ 62 130 x7)::(119,eqP 116 2)::tkQueue 120 121 122 123 124 125 126 127 128 t1.q []) [(2,ptT eTOp payQ 62 2 (PT.node t1.op t1.gone t1.lf x7 (w64 ((w64 (x8+1))+x9)) t1.q)),(119,eqP 116 2)] [] (PT.close (enc:=eTOp) (op:=t1.op) (g:=t1.gone) (n:=(w64 ((w64 (x8+1))+x9))) (pc:=.p 120 0) 2 116 117 130 119 (payQ_cl 120 121 122 123 124 125 126 127 128 t1.q)) ⟨R,R,R,R,R,R,R,R,R,R,R,R,R,trivial⟩ R R R R<|At.toN (t:=1) 119 R R<|At.toN (t:=6) 119 R R<|At.toN (t:=7) 119 R R<|At.toN (t:=9) 119 R R<|At.toN (t:=10) 119 R R<|At.toN (t:=15) 119 R R<|At.toN (t:=18) 119 R R<|At.toN (t:=21) 119 R R<|At.toN (t:=32) 119 R R<|At.toN (t:=33) 119 R R<|At.toN (t:=34) 119 R R<|At.toN (t:=35) 119 R R<|At.toN (t:=48) 119 R R<|At.toN (t:=49) 119 R R<|At.toN (t:=50) 119 R R<|At.toN (t:=55) 119 R R<|At.toN (t:=56) 119 R R<|At.toN (t:=61) 119 R R<|At.toN (t:=63) 119 R R<|by cases H0;exact ZR [(30,2)])))
theorem past_Past_even_con {k n:Nat} (m2 m0 m30 m1:Nat) (hd:frOk [m30] [m2,m0,m1]=true):past_Past_even_st k n m2 m0 m30 m1:=fun H0=>SCon.ren (rn [(2,m2),(0,m0),(30,m30),(1,m1)]) (past_Past_even_con0    H0) ⟨(ptT_ren rfl),(blk_ren rfl rfl),trivial⟩ ⟨(blk_ren rfl rfl),(ptT_ren rfl),trivial⟩ (rn_nd2 (olds:=[2,0,1]) hd) (rn_ks2 (olds:=[2,0,1]) hd rfl)
abbrev past_New_st (m80 m81:Nat):Prop:=∀ {k:Nat} {a0:Int} {r:TPast} (H0:past_New.f k a0=some r),SCon Tryz.prog 9 [.a (.c (.v (.int .i64 a0)))] [] (.a (.c (.p m80 0))) [(m80,blk m80 [.v (.int .i64 r.capacity),.nv m81] 58),(m81,ptT eTOp payQ 62 m81 r.root)] [m80,m81]
theorem past_New_con0:past_New_st 80 81:=by
 intro k a0 r H0
 rw [past_New.f] at H0
 exact M.s Tryz.func9 Tryz.ntmps9 R fun β W F=>xg 8 [] R<|K.bi2 (V:=.int .i64 (gmax a0 0)) g0 R R (fun _ _=>R) R<|K.bi2 (V:=.int .i64 (gmin (gmax a0 0) 65536)) g0 R R (fun _ _=>R) R<|xk 4 [100] R<|At.ent [] [(101,ptT eTOp payQ 62 101 (PT.nil:PT TOp TQueue))] [101] (PT.nilT 101) trivial R R R R<|At.ent [(100,blk 100 [.v (.int .i64 (gmin (gmax a0 0) 65536)),.v (.pointer none)] 58),(101,ptT eTOp payQ 62 101 (PT.nil:PT TOp TQueue))] [(100,blk 100 [.v (.int .i64 (gmin (gmax a0 0) 65536)),.nv 101] 58),(101,ptT eTOp payQ 62 101 (PT.nil:PT TOp TQueue))] [] (Ent.nilC (fun β h=>by simp only [List.map,Cl.den,h])) ⟨R,R,trivial⟩ R R R R<|xa 2 [] R<|by cases H0;exact ZR [(80,100),(81,101)]
theorem past_New_con (m80 m81:Nat) (hd:ndB [m80,m81]=true):past_New_st m80 m81:=fun H0=>cnB [(80,m80),(81,m81)] hd (past_New_con0 H0)
abbrev past_Past_insert_st (m0 m1 m130:Nat):Prop:=∀ {k:Nat} {q0:TPast} {a1:TOp} {r:Int×TPast} (H0:past_Past_insert.f k q0 a1=some r),SCon Tryz.prog 28 [SV.p m0 0,.a (.agg ((eTOp a1).map .v))] [(m0,blk m0 [.v (.int .i64 q0.capacity),.nv m1] 58),(m1,ptT eTOp payQ 62 m1 q0.root)] (.a (.c (.v (.int .i64 r.1)))) [(m0,blk m0 [.v (.int .i64 r.2.capacity),.nv m130] 58),(m130,ptT eTOp payQ 62 m130 r.2.root)] [m130]
theorem past_Past_insert_con0:past_Past_insert_st 0 1 130:=by
 intro k q0 a1 r H0
 rw [past_Past_insert.f] at H0
 exact M.s Tryz.func28 Tryz.ntmps28 R fun β W F=>xg 13 [100] R<|K.eqnT (V:=q0.root.isNil) g0 R R R (en_eql _ Tryz.underlying56) R<|xk 2 [] R<|M.c R H0 (fun h1 H0=>xg 1 [] R<|M.b H0 fun x1 hx1 H0=>xg 2 [] R<|K.cV (cf 52 R) [] (fun β w S2 h=>past_Past_queue_con 0 101 102 103 104 105 106 107 108 109 1 R (larg_nil eTOp_len (by decide)) hx1) g0 (fun _=>R) R R R<|xk 5 [] R<|M.b H0 fun x2 hx2 H0=>xg 3 [] R<|k0 (past_add_con 101 102 103 104 105 106 107 108 109 hx2) R<|xk 9 [] R<|M.c R H0 (fun h2 H0=>xg 9 [] R<|by cases H0;exact ZR [(130,1)]) (fun h2 H0=>xg 3 [] R<|M.b H0 fun x3 hx3 H0=>xg 4 [] R<|K.buildL Y 110 ([a1]:List TOp) [(0,_)] [((.tmp 23),_)] eTOp_len g0 (AllE.spec ⟨R,trivial⟩) R R Tryz.underlying34 t45 R R R R R R R R<|K.cV (cf 32 R) [110] (fun β w S2 h=>past_Past_build_con 0 111 1 R (la 0 R eTOp_len R h) hx3) g0 (fun _=>R) R R R<|xk 12 [] R<|by cases H0;exact ZR [(130,111)])) (fun h1 H0=>xg 4 [] R<|G.ent [(1,ptT eTOp payQ 62 1 q0.root)] ((112,blk 112 [.v (.int .i64 q0.root.op.time),.v (.bool q0.root.op.insert),.v (.int .i64 q0.root.op.item.key),.v (.int .i64 q0.root.op.item.id),.v (.bool q0.root.gone),.nv 113,.nv 114,.v (.int .i64 q0.root.n),.p 116 0] 62)::(113,ptT eTOp payQ 62 113 q0.root.lf)::(114,ptT eTOp payQ 62 114 q0.root.rt)::(115,eqP 112 1)::tkQueue 116 117 118 119 120 121 122 123 124 q0.root.q []) [112,113,114,116,117,118,119,120,121,122,123,124] (PT.open (enc:=eTOp) 1 112 113 114 115 h1 (payQ_op 116 117 118 119 120 121 122 123 124 q0.root.q R) R) ⟨R,trivial⟩ R R R R<|G.toP (t:=11) 115 R R<|M.b H0 fun x4 hx4 H0=>xg 4 [] R<|K.load1P Y 115 g0 R R R R t56 R R<|xd 4 [] R<|k0 (past_add_con 116 117 118 119 120 121 122 123 124 hx4) R<|xd 1 [] R<|M.n<|xa 7 [] R<|M.c R H0 (fun h3 H0=>xg 8 [] R<|At.ent ((112,blk 112 [.v (.int .i64 q0.root.op.time),.v (.bool q0.root.op.insert),.v (.int .i64 q0.root.op.item.key),.v (.int .i64 q0.root.op.item.id),.v (.bool q0.root.gone),.nv 113,.nv 114,.v (.int .i64 q0.root.n),.p 116 0] 62)::(113,ptT eTOp payQ 62 113 q0.root.lf)::(114,ptT eTOp payQ 62 114 q0.root.rt)::(115,eqP 112 1)::tkQueue 116 117 118 119 120 121 122 123 124 x4.2 []) [(1,ptT eTOp payQ 62 1 (PT.node q0.root.op q0.root.gone q0.root.lf q0.root.rt q0.root.n x4.2)),(115,eqP 112 1)] [] (PT.close (enc:=eTOp) (op:=q0.root.op) (g:=q0.root.gone) (n:=q0.root.n) (pc:=.p 116 0) 1 112 113 114 115 (payQ_cl 116 117 118 119 120 121 122 123 124 x4.2)) ⟨R,R,R,R,R,R,R,R,R,R,R,R,R,trivial⟩ R R R R<|At.toN (t:=11) 115 R R<|At.toN (t:=31) 115 R R<|At.toN (t:=32) 115 R R<|by cases H0;exact ZR [(130,1)]) (fun h3 H0=>xg 3 [] R<|M.b H0 fun x5 hx5 H0=>xg 4 [] R<|K.load1P Y 115 g0 R R R R t56 R R<|xd 5 [] R<|k0 (partial_Queue_Revoke_con 116 117 118 119 120 121 122 123 124 125 126 R hx5) R<|M.n<|xa 2 [] R<|G.ent ((112,blk 112 [.v (.int .i64 q0.root.op.time),.v (.bool q0.root.op.insert),.v (.int .i64 q0.root.op.item.key),.v (.int .i64 q0.root.op.item.id),.v (.bool q0.root.gone),.nv 113,.nv 114,.v (.int .i64 q0.root.n),.p 116 0] 62)::(113,ptT eTOp payQ 62 113 q0.root.lf)::(114,ptT eTOp payQ 62 114 q0.root.rt)::(115,eqP 112 1)::tkQueue 116 117 118 119 120 121 122 123 124 x5.2.2 []) [(1,ptT eTOp payQ 62 1 (PT.node q0.root.op q0.root.gone q0.root.lf q0.root.rt q0.root.n x5.2.2)),(115,eqP 112 1)] [] (PT.close (enc:=eTOp) (op:=q0.root.op) (g:=q0.root.gone) (n:=q0.root.n) (pc:=.p 116 0) 1 112 113 114 115 (payQ_cl 116 117 118 119 120 121 122 123 124 x5.2.2)) ⟨R,R,R,R,R,R,R,R,R,R,R,R,R,trivial⟩ R R R R<|G.toN (t:=11) 115 R R<|G.toN (t:=31) 115 R R<|G.toN (t:=32) 115 R R<|G.toN (t:=43) 115 R R<|G.toN (t:=44) 115 R R<|M.b H0 fun x6 hx6 H0=>M.b H0 fun x7 hx7 H0=>xg 9 [] R<|K.cC (cf 55 R) [] (fun β w S2 h=>SCon.rd0 (past_Past_put_con 1 0 127 1 R hx6) S2 w h) g0 (fun _=>R) R R R<|xd 2 [] R<|K.cC (cf 54 R) [] (fun β w S2 h=>SCon.rd0 (past_Past_even_con 127 0 128 1 R hx7) S2 w h) g0 (fun _=>R) R R R<|xd 3 [] R<|M.n<|xa 7 [] R<|by cases H0;exact ZR [(130,128)]))
theorem past_Past_insert_con (m0 m1 m130:Nat) (hd:ndB [m0,m1,m130]=true):past_Past_insert_st m0 m1 m130:=fun H0=>cnB [(0,m0),(1,m1),(130,m130)] hd (past_Past_insert_con0 H0)
abbrev past_Past_Insert_st (m0 m1 m130:Nat):Prop:=∀ {k:Nat} {q0:TPast} {a1:Int} {a2:TItem} {r:Int×TPast} (H0:past_Past_Insert.f k q0 a1 a2=some r),SCon Tryz.prog 10 [SV.p m0 0,.a (.c (.v (.int .i64 a1))),.a (.agg ((eTItem a2).map .v))] [(m0,blk m0 [.v (.int .i64 q0.capacity),.nv m1] 58),(m1,ptT eTOp payQ 62 m1 q0.root)] (.a (.c (.v (.int .i64 r.1)))) [(m0,blk m0 [.v (.int .i64 r.2.capacity),.nv m130] 58),(m130,ptT eTOp payQ 62 m130 r.2.root)] [m130]
theorem past_Past_Insert_con0:past_Past_Insert_st 0 1 130:=by
 intro k q0 a1 a2 r H0
 rw [past_Past_Insert.f] at H0
 exact M.s Tryz.func10 Tryz.ntmps10 R fun β W F=>xg 7 [100] R<|M.b H0 fun x1 hx1 H0=>xg 5 [] R<|K.cC (cf 28 R) [] (fun β w S2 h=>SCon.rd0 (past_Past_insert_con 0 1 101 R hx1) S2 w h) g0 (fun _=>R) R R R<|xk 4 [] R<|by cases H0;exact ZR [(130,101)]
theorem past_Past_Insert_con (m0 m1 m130:Nat) (hd:ndB [m0,m1,m130]=true):past_Past_Insert_st m0 m1 m130:=fun H0=>cnB [(0,m0),(1,m1),(130,m130)] hd (past_Past_Insert_con0 H0)
abbrev past_Past_Delete_st (m0 m1 m130:Nat):Prop:=∀ {k:Nat} {q0:TPast} {a1:Int} {r:Int×TPast} (H0:past_Past_Delete.f k q0 a1=some r),SCon Tryz.prog 27 [SV.p m0 0,.a (.c (.v (.int .i64 a1)))] [(m0,blk m0 [.v (.int .i64 q0.capacity),.nv m1] 58),(m1,ptT eTOp payQ 62 m1 q0.root)] (.a (.c (.v (.int .i64 r.1)))) [(m0,blk m0 [.v (.int .i64 r.2.capacity),.nv m130] 58),(m130,ptT eTOp payQ 62 m130 r.2.root)] [m130]
theorem past_Past_Delete_con0:past_Past_Delete_st 0 1 130:=by
 intro k q0 a1 r H0
 rw [past_Past_Delete.f] at H0
 exact M.s Tryz.func27 Tryz.ntmps27 R fun β W F=>xg 6 [] R<|M.b H0 fun x1 hx1 H0=>xg 4 [] R<|K.cC (cf 28 R) [] (fun β w S2 h=>SCon.rd0 (past_Past_insert_con 0 1 100 R hx1) S2 w h) g0 (fun _=>R) R R R<|xk 4 [] R<|by cases H0;exact ZR [(130,100)]
theorem past_Past_Delete_con (m0 m1 m130:Nat) (hd:ndB [m0,m1,m130]=true):past_Past_Delete_st m0 m1 m130:=fun H0=>cnB [(0,m0),(1,m1),(130,m130)] hd (past_Past_Delete_con0 H0)
abbrev past_Past_Len_st (m0 m1:Nat):Prop:=∀ {k:Nat} {q0:TPast} {r:Int} (H0:past_Past_Len.f k q0=some r),SCon Tryz.prog 13 [SV.p m0 0] [(m0,blk m0 [.v (.int .i64 q0.capacity),.nv m1] 58),(m1,ptT eTOp payQ 62 m1 q0.root)] (.a (.c (.v (.int .i64 r)))) [(m0,blk m0 [.v (.int .i64 q0.capacity),.nv m1] 58),(m1,ptT eTOp payQ 62 m1 q0.root)] []
theorem past_Past_Len_con0:past_Past_Len_st 0 1:=by
 intro k q0 r H0
 rw [past_Past_Len.f] at H0
 exact M.s Tryz.func13 Tryz.ntmps13 R fun β W F=>xg 12 [] R<|K.eqnT (V:=q0.root.isNil) g0 R R R (en_eql _ Tryz.underlying56) R<|xk 2 [] R<|M.c R H0 (fun h1 H0=>xg 7 [] R<|by cases H0;exact ZR []) (fun h1 H0=>xg 3 [] R<|G.ent [(1,ptT eTOp payQ 62 1 q0.root)] ((100,blk 100 [.v (.int .i64 q0.root.op.time),.v (.bool q0.root.op.insert),.v (.int .i64 q0.root.op.item.key),.v (.int .i64 q0.root.op.item.id),.v (.bool q0.root.gone),.nv 101,.nv 102,.v (.int .i64 q0.root.n),.p 104 0] 62)::(101,ptT eTOp payQ 62 101 q0.root.lf)::(102,ptT eTOp payQ 62 102 q0.root.rt)::(103,eqP 100 1)::tkQueue 104 105 106 107 108 109 110 111 112 q0.root.q []) [100,101,102,104,105,106,107,108,109,110,111,112] (PT.open (enc:=eTOp) 1 100 101 102 103 h1 (payQ_op 104 105 106 107 108 109 110 111 112 q0.root.q R) R) ⟨R,trivial⟩ R R R R<|G.toP (t:=6) 103 R R<|M.b H0 fun x1 hx1 H0=>xg 4 [] R<|K.load1P Y 103 g0 R R R R t56 R R<|xk 3 [] R<|kR (partial_Queue_Len_con 104 105 106 107 108 109 110 111 112 hx1) R<|xk 4 [] R<|At.ent ((100,blk 100 [.v (.int .i64 q0.root.op.time),.v (.bool q0.root.op.insert),.v (.int .i64 q0.root.op.item.key),.v (.int .i64 q0.root.op.item.id),.v (.bool q0.root.gone),.nv 101,.nv 102,.v (.int .i64 q0.root.n),.p 104 0] 62)::(101,ptT eTOp payQ 62 101 q0.root.lf)::(102,ptT eTOp payQ 62 102 q0.root.rt)::(103,eqP 100 1)::tkQueue 104 105 106 107 108 109 110 111 112 q0.root.q []) [(1,ptT eTOp payQ 62 1 q0.root),(103,eqP 100 1)] [] (PT.closeE (enc:=eTOp) h1 (pc:=.p 104 0) 1 100 101 102 103 (payQ_cl 104 105 106 107 108 109 110 111 112 q0.root.q)) ⟨R,R,R,R,R,R,R,R,R,R,R,R,R,trivial⟩ R R R R<|At.toN (t:=6) 103 R R<|At.toN (t:=11) 103 R R<|At.toN (t:=12) 103 R R<|by cases H0;exact ZR [])
theorem past_Past_Len_con (m0 m1:Nat):past_Past_Len_st m0 m1:=fun H0=>cnA [(0,m0),(1,m1)] (past_Past_Len_con0 H0)
abbrev past_Past_Ops_st (m0 m1 m30:Nat):Prop:=∀ {k:Nat} {q0:TPast} {r:List TOp} (H0:past_Past_Ops.f k q0=some r),SCon Tryz.prog 16 [SV.p m0 0] [(m0,blk m0 [.v (.int .i64 q0.capacity),.nv m1] 58),(m1,ptT eTOp payQ 62 m1 q0.root)] (.a (.c (.nv m30))) [(m0,blk m0 [.v (.int .i64 q0.capacity),.nv m1] 58),(m1,ptT eTOp payQ 62 m1 q0.root),(m30,lrow m30 45 eTOp 4 r)] [m30]
theorem past_Past_Ops_con0:past_Past_Ops_st 0 1 30:=by
 intro k q0 r H0
 rw [past_Past_Ops.f] at H0
 exact M.s Tryz.func16 Tryz.ntmps16 R fun β W F=>xg 2 [] R<|K.nilRow 100 45 eTOp 4 (.inl R) g0 R R R<|xk 9 [] R<|K.eqnT (V:=q0.root.isNil) g0 R R R (en_eql _ Tryz.underlying56) R<|xk 2 [] R<|M.c R H0 (fun h1 H0=>xg 2 [] R<|K.nilRow 101 45 eTOp 4 (.inl R) g0 R R R<|xk 4 [] R<|by cases H0;exact ZR [(30,101)]) (fun h1 H0=>xg 3 [] R<|G.ent [(1,ptT eTOp payQ 62 1 q0.root)] ((102,blk 102 [.v (.int .i64 q0.root.op.time),.v (.bool q0.root.op.insert),.v (.int .i64 q0.root.op.item.key),.v (.int .i64 q0.root.op.item.id),.v (.bool q0.root.gone),.nv 103,.nv 104,.v (.int .i64 q0.root.n),.p 106 0] 62)::(103,ptT eTOp payQ 62 103 q0.root.lf)::(104,ptT eTOp payQ 62 104 q0.root.rt)::(105,eqP 102 1)::tkQueue 106 107 108 109 110 111 112 113 114 q0.root.q []) [102,103,104,106,107,108,109,110,111,112,113,114] (PT.open (enc:=eTOp) 1 102 103 104 105 h1 (payQ_op 106 107 108 109 110 111 112 113 114 q0.root.q R) R) ⟨R,trivial⟩ R R R R<|G.toP (t:=6) 105 R R<|M.b H0 fun x1 hx1 H0=>xg 4 [] R<|K.load1P Y 105 g0 R R R R t56 R R<|xk 3 [] R<|k0 (partial_Queue_Ops_con 106 107 108 109 110 111 112 113 114 115 R hx1) R<|xk 4 [] R<|At.ent ((102,blk 102 [.v (.int .i64 q0.root.op.time),.v (.bool q0.root.op.insert),.v (.int .i64 q0.root.op.item.key),.v (.int .i64 q0.root.op.item.id),.v (.bool q0.root.gone),.nv 103,.nv 104,.v (.int .i64 q0.root.n),.p 106 0] 62)::(103,ptT eTOp payQ 62 103 q0.root.lf)::(104,ptT eTOp payQ 62 104 q0.root.rt)::(105,eqP 102 1)::tkQueue 106 107 108 109 110 111 112 113 114 q0.root.q []) [(1,ptT eTOp payQ 62 1 q0.root),(105,eqP 102 1)] [] (PT.closeE (enc:=eTOp) h1 (pc:=.p 106 0) 1 102 103 104 105 (payQ_cl 106 107 108 109 110 111 112 113 114 q0.root.q)) ⟨R,R,R,R,R,R,R,R,R,R,R,R,R,trivial⟩ R R R R<|At.toN (t:=6) 105 R R<|At.toN (t:=11) 105 R R<|At.toN (t:=12) 105 R R<|by cases H0;exact ZR [(30,115)])
theorem past_Past_Ops_con (m0 m1 m30:Nat) (hd:ndB [m0,m1,m30]=true):past_Past_Ops_st m0 m1 m30:=fun H0=>cnB [(0,m0),(1,m1),(30,m30)] hd (past_Past_Ops_con0 H0)
abbrev past_Past_Len_x_x0_st (m0 m2 m3 m4 m5 m6 m7 m8 m9 m10 m11 m12 m13 m14 m1:Nat):Prop:=∀ {k:Nat} {q0:TPast} {r:Int} (H0:past_Past_Len_x.f k q0=some r),SCon Tryz.prog 13 [SV.p m0 0] ((m0,blk m0 [.v (.int .i64 q0.capacity),.nv m1] 58)::((m2,blk m2 [.v (.int .i64 q0.root.op.time),.v (.bool q0.root.op.insert),.v (.int .i64 q0.root.op.item.key),.v (.int .i64 q0.root.op.item.id),.v (.bool q0.root.gone),.nv m3,.nv m4,.v (.int .i64 q0.root.n),.p m6 0] 62)::((m3,ptT eTOp payQ 62 m3 q0.root.lf)::((m4,ptT eTOp payQ 62 m4 q0.root.rt)::((m5,eqP m2 m1)::(tkQueue m6 m7 m8 m9 m10 m11 m12 m13 m14 q0.root.q [])))))) (.a (.c (.v (.int .i64 r)))) ((m0,blk m0 [.v (.int .i64 q0.capacity),.nv m1] 58)::((m2,blk m2 [.v (.int .i64 q0.root.op.time),.v (.bool q0.root.op.insert),.v (.int .i64 q0.root.op.item.key),.v (.int .i64 q0.root.op.item.id),.v (.bool q0.root.gone),.nv m3,.nv m4,.v (.int .i64 q0.root.n),.p m6 0] 62)::((m3,ptT eTOp payQ 62 m3 q0.root.lf)::((m4,ptT eTOp payQ 62 m4 q0.root.rt)::((m5,eqP m2 m1)::(tkQueue m6 m7 m8 m9 m10 m11 m12 m13 m14 q0.root.q [])))))) []
theorem past_Past_Len_x_x0_con0:past_Past_Len_x_x0_st 0 2 3 4 5 6 7 8 9 10 11 12 13 14 1:=by
 intro k q0 r H0
 rw [past_Past_Len_x.f] at H0
 exact M.s Tryz.func13 Tryz.ntmps13 R fun β W F=>xg 11 [] R<|K.load1P Y 5 g0 R R R R t56 R R<|K.eqnil (V:=false) g0 R R (pn_eql_some Tryz.underlying56) R<|xk 2 [] R<|G.cond R (fun h1=>by cases h1) (fun h1=>xg 3 [] R<|M.b H0 fun x1 hx1 H0=>xg 4 [] R<|K.load1P Y 5 g0 R R R R t56 R R<|xk 3 [] R<|kR (partial_Queue_Len_con 6 7 8 9 10 11 12 13 14 hx1) R<|xk 4 [] R<|by cases H0;exact ZR [])
theorem past_Past_Len_x_x0_con (m0 m2 m3 m4 m5 m6 m7 m8 m9 m10 m11 m12 m13 m14 m1:Nat):past_Past_Len_x_x0_st m0 m2 m3 m4 m5 m6 m7 m8 m9 m10 m11 m12 m13 m14 m1:=fun H0=>cnA [(0,m0),(2,m2),(3,m3),(4,m4),(5,m5),(6,m6),(7,m7),(8,m8),(9,m9),(10,m10),(11,m11),(12,m12),(13,m13),(14,m14),(1,m1)] (past_Past_Len_x_x0_con0 H0)
abbrev past_Past_Revoke_st (m0 m1 m130:Nat):Prop:=∀ {k:Nat} {q0:TPast} {a1:Int} {r:Int×TPast} (H0:past_Past_Revoke.f k q0 a1=some r),SCon Tryz.prog 14 [SV.p m0 0,.a (.c (.v (.int .i64 a1)))] [(m0,blk m0 [.v (.int .i64 q0.capacity),.nv m1] 58),(m1,ptT eTOp payQ 62 m1 q0.root)] (.a (.c (.v (.int .i64 r.1)))) [(m0,blk m0 [.v (.int .i64 r.2.capacity),.nv m130] 58),(m130,ptT eTOp payQ 62 m130 r.2.root)] [m130]
set_option maxHeartbeats 4000000 in
theorem past_Past_Revoke_con0:past_Past_Revoke_st 0 1 130:=by
 intro k q0 a1 r H0
 rw [past_Past_Revoke.f] at H0
 exact M.s Tryz.func14 Tryz.ntmps14 R fun β W F=>xg 12 [] R<|K.eqnT (V:=q0.root.isNil) g0 R R R (en_eql _ Tryz.underlying56) R<|xk 2 [] R<|M.c R H0 (fun h1 H0=>xg 7 [] R<|by cases H0;exact ZR [(130,1)]) (fun h1 H0=>xg 4 [] R<|G.ent [(1,ptT eTOp payQ 62 1 q0.root)] ((100,blk 100 [.v (.int .i64 q0.root.op.time),.v (.bool q0.root.op.insert),.v (.int .i64 q0.root.op.item.key),.v (.int .i64 q0.root.op.item.id),.v (.bool q0.root.gone),.nv 101,.nv 102,.v (.int .i64 q0.root.n),.p 104 0] 62)::(101,ptT eTOp payQ 62 101 q0.root.lf)::(102,ptT eTOp payQ 62 102 q0.root.rt)::(103,eqP 100 1)::tkQueue 104 105 106 107 108 109 110 111 112 q0.root.q []) [100,101,102,104,105,106,107,108,109,110,111,112] (PT.open (enc:=eTOp) 1 100 101 102 103 h1 (payQ_op 104 105 106 107 108 109 110 111 112 q0.root.q R) R) ⟨R,trivial⟩ R R R R<|G.toP (t:=11) 103 R R<|M.b H0 fun x1 hx1 H0=>xg 4 [] R<|K.load1P Y 103 g0 R R R R t56 R R<|xk 4 [] R<|k0 (partial_Queue_Revoke_con 104 105 106 107 108 109 110 111 112 113 114 R hx1) R<|xk 14 [115] R<|M.c R H0 (fun h2 H0=>xg 8 [] R<|At.ent ((100,blk 100 [.v (.int .i64 q0.root.op.time),.v (.bool q0.root.op.insert),.v (.int .i64 q0.root.op.item.key),.v (.int .i64 q0.root.op.item.id),.v (.bool q0.root.gone),.nv 101,.nv 102,.v (.int .i64 q0.root.n),.p 104 0] 62)::(101,ptT eTOp payQ 62 101 q0.root.lf)::(102,ptT eTOp payQ 62 102 q0.root.rt)::(103,eqP 100 1)::tkQueue 104 105 106 107 108 109 110 111 112 x1.2.2 []) [(1,ptT eTOp payQ 62 1 (PT.node q0.root.op q0.root.gone q0.root.lf q0.root.rt q0.root.n x1.2.2)),(103,eqP 100 1)] [] (PT.close (enc:=eTOp) (op:=q0.root.op) (g:=q0.root.gone) (n:=q0.root.n) (pc:=.p 104 0) 1 100 101 102 103 (payQ_cl 104 105 106 107 108 109 110 111 112 x1.2.2)) ⟨R,R,R,R,R,R,R,R,R,R,R,R,R,trivial⟩ R R R R<|At.toN (t:=11) 103 R R<|At.toN (t:=17) 103 R R<|At.toN (t:=18) 103 R R<|by cases H0;exact ZR [(130,1)]) (fun h2 H0=>xg 7 [] R<|K.load1P Y 103 g0 R R R R t56 R R<|xk 3 [] R<|M.b H0 fun x2 H1 H0=>M.x ([(0,.a (.c (.p 0 0))),(7,.a (.c (.nv 116)))]) ([(0,blk 0 [.v (.int .i64 q0.capacity),.nv 1] 58),(116,ptT eTOp payQ 62 116 x2.1),(117,holeT eTOp payQ 62 1 116 x2.2)]) (xg 1 [] R<|G.ent ((100,blk 100 [.v (.int .i64 q0.root.op.time),.v (.bool q0.root.op.insert),.v (.int .i64 q0.root.op.item.key),.v (.int .i64 q0.root.op.item.id),.v (.bool q0.root.gone),.nv 101,.nv 102,.v (.int .i64 q0.root.n),.p 104 0] 62)::(101,ptT eTOp payQ 62 101 q0.root.lf)::(102,ptT eTOp payQ 62 102 q0.root.rt)::(103,eqP 100 1)::tkQueue 104 105 106 107 108 109 110 111 112 x1.2.2 []) [(1,ptT eTOp payQ 62 1 (PT.node q0.root.op q0.root.gone q0.root.lf q0.root.rt q0.root.n x1.2.2)),(103,eqP 100 1)] [] (PT.close (enc:=eTOp) (op:=q0.root.op) (g:=q0.root.gone) (n:=q0.root.n) (pc:=.p 104 0) 1 100 101 102 103 (payQ_cl 104 105 106 107 108 109 110 111 112 x1.2.2)) ⟨R,R,R,R,R,R,R,R,R,R,R,R,R,trivial⟩ R R R R<|G.toN (t:=7) 103 R R<|G.toN (t:=11) 103 R R<|G.toN (t:=17) 103 R R<|G.toN (t:=18) 103 R R<|G.toN (t:=31) 103 R R<|G.ent [] [(118,holeT eTOp payQ 62 1 1 ([]:List (PF TOp TQueue)))] [] (hole0 118 1) trivial R R R R<|M.l (past_Past_Revoke.l0 k a1) H1 (fun (v1,v2)=>[(0,.a (.c (.p 0 0))),(1,.a (.c (.v (.int .i64 a1)))),(7,.a (.c (.nv 122)))]) (fun (v1,v2)=>[(0,blk 0 [.v (.int .i64 q0.capacity),.nv 1] 58),(122,ptT eTOp payQ 62 122 v1),(123,holeT eTOp payQ 62 1 122 v2)]) [(122,1),(123,118)] fun n0 (v1,v2) H1=>xg 2 [] R<|M.e H1 fun h3 H1=>G.ent [(122,ptT eTOp payQ 62 122 v1)] ((124,blk 124 [.v (.int .i64 v1.op.time),.v (.bool v1.op.insert),.v (.int .i64 v1.op.item.key),.v (.int .i64 v1.op.item.id),.v (.bool v1.gone),.nv 125,.nv 126,.v (.int .i64 v1.n),.p 128 0] 62)::(125,ptT eTOp payQ 62 125 v1.lf)::(126,ptT eTOp payQ 62 126 v1.rt)::(127,eqP 124 122)::tkQueue 128 129 130 131 132 133 134 135 136 v1.q []) [124,125,126,128,129,130,131,132,133,134,135,136] (PT.open (enc:=eTOp) 122 124 125 126 127 (of_decide_eq_true (decide_eq_true h3)) (payQ_op 128 129 130 131 132 133 134 135 136 v1.q R) R) ⟨R,trivial⟩ R R R R<|G.toP (t:=7) 127 R R<|xg 10 [] R<|M.c R H1 (fun h4 H1=>xg 15 [] R<|M.c R H1 (fun h5 H1=>xg 8 [] R<|M.e H1 fun h6 H1=>G.ent [(125,ptT eTOp payQ 62 125 v1.lf)] ((137,blk 137 [.v (.int .i64 v1.lf.op.time),.v (.bool v1.lf.op.insert),.v (.int .i64 v1.lf.op.item.key),.v (.int .i64 v1.lf.op.item.id),.v (.bool v1.lf.gone),.nv 138,.nv 139,.v (.int .i64 v1.lf.n),.p 141 0] 62)::(138,ptT eTOp payQ 62 138 v1.lf.lf)::(139,ptT eTOp payQ 62 139 v1.lf.rt)::(140,eqP 137 125)::tkQueue 141 142 143 144 145 146 147 148 149 v1.lf.q []) [137,138,139,141,142,143,144,145,146,147,148,149] (PT.open (enc:=eTOp) 125 137 138 139 140 (of_decide_eq_true (decide_eq_true h6)) (payQ_op 141 142 143 144 145 146 147 148 149 v1.lf.q R) R) ⟨R,trivial⟩ R R R R<|G.toP (t:=7) 140 R R<|G.toP (t:=49) 140 R R<|M.b H1 fun x3 hx3 H1=>xg 6 [] R<|k0 (partial_Queue_Revoke_con 141 142 143 144 145 146 147 148 149 150 151 R hx3) R<|xk 2 [] R<|At.ent ((137,blk 137 [.v (.int .i64 v1.lf.op.time),.v (.bool v1.lf.op.insert),.v (.int .i64 v1.lf.op.item.key),.v (.int .i64 v1.lf.op.item.id),.v (.bool v1.lf.gone),.nv 138,.nv 139,.v (.int .i64 v1.lf.n),.p 141 0] 62)::(138,ptT eTOp payQ 62 138 v1.lf.lf)::(139,ptT eTOp payQ 62 139 v1.lf.rt)::(140,eqP 137 125)::tkQueue 141 142 143 144 145 146 147 148 149 x3.2.2 []) [(125,ptT eTOp payQ 62 125 (PT.node v1.lf.op v1.lf.gone v1.lf.lf v1.lf.rt v1.lf.n x3.2.2)),(140,eqP 137 125)] [] (PT.close (enc:=eTOp) (op:=v1.lf.op) (g:=v1.lf.gone) (n:=v1.lf.n) (pc:=.p 141 0) 125 137 138 139 140 (payQ_cl 141 142 143 144 145 146 147 148 149 x3.2.2)) ⟨R,R,R,R,R,R,R,R,R,R,R,R,R,trivial⟩ R R R R<|At.toN (t:=7) 140 R R<|At.toN (t:=49) 140 R R<|At.toN (t:=54) 140 R R<|At.toN (t:=55) 140 R R<|At.ent ((123,holeT eTOp payQ 62 1 122 v2)::(124,blk 124 [.v (.int .i64 v1.op.time),.v (.bool v1.op.insert),.v (.int .i64 v1.op.item.key),.v (.int .i64 v1.op.item.id),.v (.bool v1.gone),.nv 125,.nv 126,.v (.int .i64 v1.n),.p 128 0] 62)::(126,ptT eTOp payQ 62 126 v1.rt)::(127,eqP 124 122)::tkQueue 128 129 130 131 132 133 134 135 136 v1.q []) [(123,holeT eTOp payQ 62 1 125 ((PF.mk v1.op v1.gone v1.n v1.q true v1.rt)::v2))] [] (holeL (enc:=eTOp) (op:=v1.op) (g:=v1.gone) (n:=v1.n) (pc:=.p 128 0) 123 1 122 124 125 126 127 (payQ_cl 128 129 130 131 132 133 134 135 136 v1.q)) ⟨R,R,R,R,R,R,R,R,R,R,R,R,R,trivial⟩ R R R R<|M.ag H1 [(122,125)]) (fun h5 H1=>xg 8 [] R<|M.e H1 fun h7 H1=>G.ent [(126,ptT eTOp payQ 62 126 v1.rt)] ((152,blk 152 [.v (.int .i64 v1.rt.op.time),.v (.bool v1.rt.op.insert),.v (.int .i64 v1.rt.op.item.key),.v (.int .i64 v1.rt.op.item.id),.v (.bool v1.rt.gone),.nv 153,.nv 154,.v (.int .i64 v1.rt.n),.p 156 0] 62)::(153,ptT eTOp payQ 62 153 v1.rt.lf)::(154,ptT eTOp payQ 62 154 v1.rt.rt)::(155,eqP 152 126)::tkQueue 156 157 158 159 160 161 162 163 164 v1.rt.q []) [152,153,154,156,157,158,159,160,161,162,163,164] (PT.open (enc:=eTOp) 126 152 153 154 155 (of_decide_eq_true (decide_eq_true h7)) (payQ_op 156 157 158 159 160 161 162 163 164 v1.rt.q R) R) ⟨R,trivial⟩ R R R R<|G.toP (t:=7) 155 R R<|G.toP (t:=53) 155 R R<|M.b H1 fun x4 hx4 H1=>xg 6 [] R<|k0 (partial_Queue_Revoke_con 156 157 158 159 160 161 162 163 164 165 166 R hx4) R<|xk 2 [] R<|At.ent ((152,blk 152 [.v (.int .i64 v1.rt.op.time),.v (.bool v1.rt.op.insert),.v (.int .i64 v1.rt.op.item.key),.v (.int .i64 v1.rt.op.item.id),.v (.bool v1.rt.gone),.nv 153,.nv 154,.v (.int .i64 v1.rt.n),.p 156 0] 62)::(153,ptT eTOp payQ 62 153 v1.rt.lf)::(154,ptT eTOp payQ 62 154 v1.rt.rt)::(155,eqP 152 126)::tkQueue 156 157 158 159 160 161 162 163 164 x4.2.2 []) [(126,ptT eTOp payQ 62 126 (PT.node v1.rt.op v1.rt.gone v1.rt.lf v1.rt.rt v1.rt.n x4.2.2)),(155,eqP 152 126)] [] (PT.close (enc:=eTOp) (op:=v1.rt.op) (g:=v1.rt.gone) (n:=v1.rt.n) (pc:=.p 156 0) 126 152 153 154 155 (payQ_cl 156 157 158 159 160 161 162 163 164 x4.2.2)) ⟨R,R,R,R,R,R,R,R,R,R,R,R,R,trivial⟩ R R R R<|At.toN (t:=7) 155 R R<|At.toN (t:=53) 155 R R<|At.toN (t:=54) 155 R R<|At.toN (t:=55) 155 R R<|At.ent ((123,holeT eTOp payQ 62 1 122 v2)::(124,blk 124 [.v (.int .i64 v1.op.time),.v (.bool v1.op.insert),.v (.int .i64 v1.op.item.key),.v (.int .i64 v1.op.item.id),.v (.bool v1.gone),.nv 125,.nv 126,.v (.int .i64 v1.n),.p 128 0] 62)::(125,ptT eTOp payQ 62 125 v1.lf)::(127,eqP 124 122)::tkQueue 128 129 130 131 132 133 134 135 136 v1.q []) [(123,holeT eTOp payQ 62 1 126 ((PF.mk v1.op v1.gone v1.n v1.q false v1.lf)::v2))] [] (holeR (enc:=eTOp) (op:=v1.op) (g:=v1.gone) (n:=v1.n) (pc:=.p 128 0) 123 1 122 124 125 126 127 (payQ_cl 128 129 130 131 132 133 134 135 136 v1.q)) ⟨R,R,R,R,R,R,R,R,R,R,R,R,R,trivial⟩ R R R R<|M.ag H1 [(122,126)])) (fun h4 H1=>xg 4 [] R<|At.ent ((124,blk 124 [.v (.int .i64 v1.op.time),.v (.bool v1.op.insert),.v (.int .i64 v1.op.item.key),.v (.int .i64 v1.op.item.id),.v (.bool v1.gone),.nv 125,.nv 126,.v (.int .i64 v1.n),.p 128 0] 62)::(125,ptT eTOp payQ 62 125 v1.lf)::(126,ptT eTOp payQ 62 126 v1.rt)::(127,eqP 124 122)::tkQueue 128 129 130 131 132 133 134 135 136 v1.q []) [(122,ptT eTOp payQ 62 122 v1),(127,eqP 124 122)] [] (PT.closeE (enc:=eTOp) (of_decide_eq_true (decide_eq_true h3)) (pc:=.p 128 0) 122 124 125 126 127 (payQ_cl 128 129 130 131 132 133 134 135 136 v1.q)) ⟨R,R,R,R,R,R,R,R,R,R,R,R,R,trivial⟩ R R R R<|At.toN (t:=7) 127 R R<|At.toN (t:=32) 127 R R<|At.toN (t:=33) 127 R R<|At.toN (t:=34) 127 R R<|At.toN (t:=35) 127 R R<|by cases H1;exact M.xd [(116,122),(117,123)]))<|xg 1 [] R<|M.e H0 fun h8 H0=>G.ent [(116,ptT eTOp payQ 62 116 x2.1)] ((167,blk 167 [.v (.int .i64 x2.1.op.time),.v (.bool x2.1.op.insert),.v (.int .i64 x2.1.op.item.key),.v (.int .i64 x2.1.op.item.id),.v (.bool x2.1.gone),.nv 168,.nv 169,.v (.int .i64 x2.1.n),.p 171 0] 62)::(168,ptT eTOp payQ 62 168 x2.1.lf)::(169,ptT eTOp payQ 62 169 x2.1.rt)::(170,eqP 167 116)::tkQueue 171 172 173 174 175 176 177 178 179 x2.1.q []) [167,168,169,171,172,173,174,175,176,177,178,179] (PT.open (enc:=eTOp) 116 167 168 169 170 (of_decide_eq_true (decide_eq_true h8)) (payQ_op 171 172 173 174 175 176 177 178 179 x2.1.q R) R) ⟨R,trivial⟩ R R R R<|G.toP (t:=7) 170 R R<|xg 9 [] R<|G.ent ((167,blk 167 [.v (.int .i64 x2.1.op.time),.v (.bool x2.1.op.insert),.v (.int .i64 x2.1.op.item.key),.v (.int .i64 x2.1.op.item.id),.v (.bool true),.nv 168,.nv 169,.v (.int .i64 x2.1.n),.p 171 0] 62)::(168,ptT eTOp payQ 62 168 x2.1.lf)::(169,ptT eTOp payQ 62 169 x2.1.rt)::(170,eqP 167 116)::tkQueue 171 172 173 174 175 176 177 178 179 x2.1.q []) [(116,ptT eTOp payQ 62 116 (PT.node x2.1.op true x2.1.lf x2.1.rt x2.1.n x2.1.q)),(170,eqP 167 116)] [] (PT.close (enc:=eTOp) (op:=x2.1.op) (g:=true) (n:=x2.1.n) (pc:=.p 171 0) 116 167 168 169 170 (payQ_cl 171 172 173 174 175 176 177 178 179 x2.1.q)) ⟨R,R,R,R,R,R,R,R,R,R,R,R,R,trivial⟩ R R R R<|G.toN (t:=7) 170 R R<|G.toN (t:=60) 170 R R<|G.toN (t:=61) 170 R R<|G.ent [(117,holeT eTOp payQ 62 1 116 x2.2),(116,ptT eTOp payQ 62 116 (PT.node x2.1.op true x2.1.lf x2.1.rt x2.1.n x2.1.q))] [(1,ptT eTOp payQ 62 1 (plug x2.2 (PT.node x2.1.op true x2.1.lf x2.1.rt x2.1.n x2.1.q)))] [] (plugE 117 1 116) ⟨R,R,trivial⟩ R R R R<|M.e H0 fun h9 H0=>G.ent [(1,ptT eTOp payQ 62 1 (plug x2.2 (PT.node x2.1.op true x2.1.lf x2.1.rt x2.1.n x2.1.q)))] ((180,blk 180 [.v (.int .i64 (((plug x2.2 (PT.node x2.1.op true x2.1.lf x2.1.rt x2.1.n x2.1.q)).op).time)),.v (.bool (((plug x2.2 (PT.node x2.1.op true x2.1.lf x2.1.rt x2.1.n x2.1.q)).op).insert)),.v (.int .i64 (((plug x2.2 (PT.node x2.1.op true x2.1.lf x2.1.rt x2.1.n x2.1.q)).op).item.key)),.v (.int .i64 (((plug x2.2 (PT.node x2.1.op true x2.1.lf x2.1.rt x2.1.n x2.1.q)).op).item.id)),.v (.bool ((plug x2.2 (PT.node x2.1.op true x2.1.lf x2.1.rt x2.1.n x2.1.q)).gone)),.nv 181,.nv 182,.v (.int .i64 ((plug x2.2 (PT.node x2.1.op true x2.1.lf x2.1.rt x2.1.n x2.1.q)).n)),.p 184 0] 62)::(181,ptT eTOp payQ 62 181 ((plug x2.2 (PT.node x2.1.op true x2.1.lf x2.1.rt x2.1.n x2.1.q)).lf))::(182,ptT eTOp payQ 62 182 ((plug x2.2 (PT.node x2.1.op true x2.1.lf x2.1.rt x2.1.n x2.1.q)).rt))::(183,eqP 180 1)::tkQueue 184 185 186 187 188 189 190 191 192 ((plug x2.2 (PT.node x2.1.op true x2.1.lf x2.1.rt x2.1.n x2.1.q)).q) []) [180,181,182,184,185,186,187,188,189,190,191,192] (PT.open (enc:=eTOp) 1 180 181 182 183 (of_decide_eq_true (decide_eq_true h9)) (payQ_op 184 185 186 187 188 189 190 191 192 (plug x2.2 (PT.node x2.1.op true x2.1.lf x2.1.rt x2.1.n x2.1.q)).q R) R) ⟨R,trivial⟩ R R R R<|M.b H0 fun x5 hx5 H0=>xg 2 [] R<|kR (past_Past_Len_x_x0_con 0 180 181 182 183 184 185 186 187 188 189 190 191 192 1 hx5) R<|xd 4 [] R<|K.load1P Y 183 g0 R R R R t56 R R<|xd 4 [] R<|M.n<|xa 1 [] R<|M.c R H0 (fun h10 H0=>G.ent ((180,blk 180 [.v (.int .i64 (((plug x2.2 (PT.node x2.1.op true x2.1.lf x2.1.rt x2.1.n x2.1.q)).op).time)),.v (.bool (((plug x2.2 (PT.node x2.1.op true x2.1.lf x2.1.rt x2.1.n x2.1.q)).op).insert)),.v (.int .i64 (((plug x2.2 (PT.node x2.1.op true x2.1.lf x2.1.rt x2.1.n x2.1.q)).op).item.key)),.v (.int .i64 (((plug x2.2 (PT.node x2.1.op true x2.1.lf x2.1.rt x2.1.n x2.1.q)).op).item.id)),.v (.bool ((plug x2.2 (PT.node x2.1.op true x2.1.lf x2.1.rt x2.1.n x2.1.q)).gone)),.nv 181,.nv 182,.v (.int .i64 ((plug x2.2 (PT.node x2.1.op true x2.1.lf x2.1.rt x2.1.n x2.1.q)).n)),.p 184 0] 62)::(181,ptT eTOp payQ 62 181 ((plug x2.2 (PT.node x2.1.op true x2.1.lf x2.1.rt x2.1.n x2.1.q)).lf))::(182,ptT eTOp payQ 62 182 ((plug x2.2 (PT.node x2.1.op true x2.1.lf x2.1.rt x2.1.n x2.1.q)).rt))::(183,eqP 180 1)::tkQueue 184 185 186 187 188 189 190 191 192 ((plug x2.2 (PT.node x2.1.op true x2.1.lf x2.1.rt x2.1.n x2.1.q)).q) []) [(1,ptT eTOp payQ 62 1 (plug x2.2 (PT.node x2.1.op true x2.1.lf x2.1.rt x2.1.n x2.1.q))),(183,eqP 180 1)] [] (PT.closeE (enc:=eTOp) (of_decide_eq_true (decide_eq_true h9)) (pc:=.p 184 0) 1 180 181 182 183 (payQ_cl 184 185 186 187 188 189 190 191 192 ((plug x2.2 (PT.node x2.1.op true x2.1.lf x2.1.rt x2.1.n x2.1.q)).q))) ⟨R,R,R,R,R,R,R,R,R,R,R,R,R,trivial⟩ R R R R<|G.toN (t:=69) 183 R R<|G.toN (t:=70) 183 R R<|M.b H0 fun x6 hx6 H0=>M.b H0 fun x7 hx7 H0=>xg 4 [] R<|k0 (past_Past_Ops_con 0 1 193 R hx6) R<|K.cV (cf 32 R) [193] (fun β w S2 h=>past_Past_build_con 0 194 1 R (la 0 R eTOp_len R h) hx7) g0 (fun _=>R) R R R<|xk 11 [] R<|by cases H0;exact ZR [(130,194)]) (fun h10 H0=>xg 8 [] R<|At.ent ((180,blk 180 [.v (.int .i64 (((plug x2.2 (PT.node x2.1.op true x2.1.lf x2.1.rt x2.1.n x2.1.q)).op).time)),.v (.bool (((plug x2.2 (PT.node x2.1.op true x2.1.lf x2.1.rt x2.1.n x2.1.q)).op).insert)),.v (.int .i64 (((plug x2.2 (PT.node x2.1.op true x2.1.lf x2.1.rt x2.1.n x2.1.q)).op).item.key)),.v (.int .i64 (((plug x2.2 (PT.node x2.1.op true x2.1.lf x2.1.rt x2.1.n x2.1.q)).op).item.id)),.v (.bool ((plug x2.2 (PT.node x2.1.op true x2.1.lf x2.1.rt x2.1.n x2.1.q)).gone)),.nv 181,.nv 182,.v (.int .i64 ((plug x2.2 (PT.node x2.1.op true x2.1.lf x2.1.rt x2.1.n x2.1.q)).n)),.p 184 0] 62)::(181,ptT eTOp payQ 62 181 ((plug x2.2 (PT.node x2.1.op true x2.1.lf x2.1.rt x2.1.n x2.1.q)).lf))::(182,ptT eTOp payQ 62 182 ((plug x2.2 (PT.node x2.1.op true x2.1.lf x2.1.rt x2.1.n x2.1.q)).rt))::(183,eqP 180 1)::tkQueue 184 185 186 187 188 189 190 191 192 ((plug x2.2 (PT.node x2.1.op true x2.1.lf x2.1.rt x2.1.n x2.1.q)).q) []) [(1,ptT eTOp payQ 62 1 (plug x2.2 (PT.node x2.1.op true x2.1.lf x2.1.rt x2.1.n x2.1.q))),(183,eqP 180 1)] [] (PT.closeE (enc:=eTOp) (of_decide_eq_true (decide_eq_true h9)) (pc:=.p 184 0) 1 180 181 182 183 (payQ_cl 184 185 186 187 188 189 190 191 192 ((plug x2.2 (PT.node x2.1.op true x2.1.lf x2.1.rt x2.1.n x2.1.q)).q))) ⟨R,R,R,R,R,R,R,R,R,R,R,R,R,trivial⟩ R R R R<|At.toN (t:=69) 183 R R<|At.toN (t:=70) 183 R R<|by cases H0;exact ZR [(130,1)])))
theorem past_Past_Revoke_con (m0 m1 m130:Nat) (hd:ndB [m0,m1,m130]=true):past_Past_Revoke_st m0 m1 m130:=fun H0=>cnB [(0,m0),(1,m1),(130,m130)] hd (past_Past_Revoke_con0 H0)
abbrev past_Past_until_st (m19 m0 m1 m60:Nat):Prop:=∀ {k:Nat} {A0:List (Nat→Nat)} {Q:List TQueue} {q0:TPastI} {a1:Int} {a2:Bool} {r:TViews×List TQueue} (hL_0:A0.length=Q.length) (H0:past_Past_until.f k Q q0 a1 a2=some r),SCon Tryz.prog 39 [SV.p m0 0,.a (.c (.v (.int .i64 a1))),.a (.c (.v (.bool a2)))] [(m19,hp m19 tq A0 Q),(m0,blk m0 [.v (.int .i64 q0.capacity),.nv m1] 58),(m1,ptT eTOp (payI A0) 62 m1 q0.root)] (.a (.agg [.nv m60])) [(m0,blk m0 [.v (.int .i64 q0.capacity),.nv m1] 58),(m1,ptT eTOp (payI A0) 62 m1 q0.root),(m60,pkV m60 A0 Q 79 4 r.2 (r.1.parts))] [m60]
set_option maxHeartbeats 4000000 in
theorem past_Past_until_con0:past_Past_until_st 19 0 1 60:=by
 intro k A0 Q q0 a1 a2 r hL_0 H0
 rw [past_Past_until.f] at H0
 refine spec_of [(0,_),(1,_),(2,_)] [(19,_),(0,_),(1,_)] 73 Tryz.func39 R Tryz.ntmps39 R R R R (fun β W F=>?_)
 obtain ⟨A,hA_⟩ : ∃ B,B=A0:=⟨_,rfl⟩
 have hL_9:A.length=Q.length:=by rw [hA_];exact hL_0
 have hpre_:A0 <+: A:=by rw [hA_];exact List.prefix_refl _
 have hqp_:Q <+: Q:=List.prefix_refl _
 refine G.ent [(19,hp 19 tq A0 Q)] [(19,hp 19 tq A Q)] [] (by rw [hA_];exact Ent.refl _) ⟨R,trivial⟩ R R R R<|G.seq<|G.rg<|K.alloc Y 100 _ g0 t42 R R R R R<|K.nil<|At.nilBlk (n:=100) (l':=[_]) 0 101 79 (eTPart A) 4 R R R R R<|At.ns ?_
 obtain ⟨x1,hx1,H0⟩:=bnd H0
 refine G.rg<|K.c0 (cf 65 R) (fuse_None_con 102 R (A:=A) hx1) g0 R R R R<|K.alloc Y 103 _ g0 t42 R R R R R<|K.store Y _ g0 R R R t42 R R R R R<|K.nil<|At.next ?_
 obtain ⟨x2,H1,H0⟩:=bnd H0
 refine G.sJ (σ:={ q:(List TPart×List TQueue)×(List (Nat→Nat)) // x2=q.1∧q.2.length=q.1.2.length∧A0 <+: q.2∧Q <+: q.1.2 }) (fun q=>[(6,.a (.c (.p 104 0))),(7,.a (.c (.p 106 0)))]) (fun q=>[(105,lrow 105 79 (eTPart q.1.2) 4 ([]:List TPart)),(104,blk 104 [.nv 105] 42),(107,lrow 107 79 (eTPart q.1.2) 4 q.1.1.1),(106,blk 106 [.nv 107] 42),(19,hp 19 tq q.1.2 q.1.1.2),(1,ptT eTOp (payI A0) 62 1 q0.root),(0,blk 0 [.v (.int .i64 q0.capacity),.nv 1] 58)]) ?_ ?_
 ·
  refine G.seq<|G.rg<|K.mv R R<|K.nilCheck g0 R R<|K.fieldAddr Y g0 R t58 R R<|K.load1 Y g0 R R t56 R R<|K.as R R<|K.nil<|At.next<|G.block<|G.ent [] [(108,holeX eTOp (payI A0) 62 1 1 q0.root q0.root)] [] (holeX0 108 1 q0.root) trivial R R R R<|G.lp (σ:={ q:Nat×(List TPart×PT TOp Nat×List TQueue)×(List (Nat→Nat)) // past_Past_until.l0 k Q q0 a1 a2 q.1 q.2.1=some x2∧q.2.2.length=q.2.1.2.2.length∧A0 <+: q.2.2∧Q <+: q.2.1.2.2 }) (fun q=>[(0,.a (.c (.p 0 0))),(1,.a (.c (.v (.int .i64 a1)))),(2,.a (.c (.v (.bool a2)))),(6,.a (.c (.p 120 0))),(7,.a (.c (.p 122 0))),(8,.a (.c (.nv 124)))]) (fun q=>[(0,blk 0 [.v (.int .i64 q0.capacity),.nv 1] 58),(121,lrow 121 79 (eTPart q.1.2.2) 4 ([]:List TPart)),(120,blk 120 [.nv 121] 42),(123,lrow 123 79 (eTPart q.1.2.2) 4 q.1.2.1.1),(122,blk 122 [.nv 123] 42),(124,ptT eTOp (payI A0) 62 124 q.1.2.1.2.1),(125,holeX eTOp (payI A0) 62 1 124 q0.root q.1.2.1.2.1),(19,hp 19 tq q.1.2.2 q.1.2.1.2.2)]) (fun q=>q.1.1) ⟨(k,(x1.parts,q0.root,Q),A),H1,hL_9,hpre_,hqp_⟩ ?_ ?_
  · exact At.into [(120,100),(121,101),(122,103),(123,102),(124,1),(125,108)] [_,_,_,_,_,_,_,_] R ⟨R,R,R,R,R,R,trivial⟩ ⟨R,(blk_ren R R),R,(lrow_ren R),R,(blk_ren R R),R,(lrow_ren R),R,(blk_ren R R),R,(ptT_ren R),R,(holeX_ren R R),R,(fun _=>R),trivial⟩ R
  ·
   rintro ⟨⟨n0,⟨v1,v2,v3⟩,A⟩,H1,hL_9,hpre_,hqp_⟩
   show G _ _ [(0,.a (.c (.p 0 0))),(1,.a (.c (.v (.int .i64 a1)))),(2,.a (.c (.v (.bool a2)))),(6,.a (.c (.p 120 0))),(7,.a (.c (.p 122 0))),(8,.a (.c (.nv 124)))] [(0,some (blk 0 [.v (.int .i64 q0.capacity),.nv 1] 58)),(121,some (lrow 121 79 (eTPart A) 4 ([]:List TPart))),(120,some (blk 120 [.nv 121] 42)),(123,some (lrow 123 79 (eTPart A) 4 v1)),(122,some (blk 122 [.nv 123] 42)),(124,some (ptT eTOp (payI A0) 62 124 v2)),(125,some (holeX eTOp (payI A0) 62 1 124 q0.root v2)),(19,some (hp 19 tq A v3))] _ _
   cases n0 with
   | zero => exact absurd H1 (by simp [past_Past_until.l0])
   | succ n0 =>
    have HL0:=H1
    rw [past_Past_until.l0] at H1
    refine G.seq<|G.seq<|G.rg<|K.mv R R<|K.eqnT (V:=(!v2.isNil)) g0 R R R (en_neq _ Tryz.underlying56) R<|K.nil<|At.next<|G.cond R (fun h1=>?_) (fun h1=>?_)
    ·
     replace H1:=bif_t H1 h1
     refine G.skip<|At.next<|G.block<|G.seq<|G.seq ?_
     obtain ⟨h2,H1⟩:=grd H1
     refine G.ent [(124,ptT eTOp (payI A0) 62 124 v2)] ((126,blk 126 [.v (.int .i64 v2.op.time),.v (.bool v2.op.insert),.v (.int .i64 v2.op.item.key),.v (.int .i64 v2.op.item.id),.v (.bool v2.gone),.nv 127,.nv 128,.v (.int .i64 v2.n),.v (ptr (hA A (THp.mk v2.q 1)) 0)] 62)::(127,ptT eTOp (payI A0) 62 127 v2.lf)::(128,ptT eTOp (payI A0) 62 128 v2.rt)::(129,eqP 126 124) ::  []) [126,127,128] (PT.open (enc:=eTOp) 124 126 127 128 129 (isn_f h1) (payI_op hpre_ (by rw [hL_0];exact h2)) R) ⟨R,trivial⟩ R R R R<|G.toP (t:=8) 129 R R<|G.toP (t:=14) 129 R R ?_
     rcases Bool.eq_false_or_eq_true (decide (a1<v2.op.time)) with h3 | h3
     ·
      replace H1:=bif_t H1 h3
      refine G.rg<|K.mv R R<|K.mv R R<|K.nilCheck g0 R R<|K.fieldAddr Y g0 R t62 R R<|K.fieldAddr Y g0 R t45 R R<|K.load1 Y g0 R R t3 R R<|K.bin (V:=.bool (decide (a1<v2.op.time))) g0 R R (fun _=>R) R<|K.mv R R<|K.sk R R h3 R<|K.sk R R h3 R<|K.sk R R h3 R<|K.sk R R h3 R<|K.sk R R h3 R<|K.sk R R h3 R<|K.sk R R h3 R<|K.sk R R h3 R<|K.skipU R R R R R<|K.skipU R R R R R<|K.sk R R h3 R<|K.pickT g0 R (h3) R R<|K.nil<|At.next<|G.cond R (fun h4=>?_) (fun h4=>?_)
      ·
       exact G.seq<|G.rg<|K.mv R R<|K.nilCheck g0 R R<|K.fieldAddr Y g0 R t62 R R<|K.load1 Y g0 R R t56 R R<|K.as R R<|K.nil<|At.next<|G.exit<|At.over_exit<|At.block_hit<|At.ent [(125,holeX eTOp (payI A0) 62 1 124 q0.root v2),(126,blk 126 [.v (.int .i64 v2.op.time),.v (.bool v2.op.insert),.v (.int .i64 v2.op.item.key),.v (.int .i64 v2.op.item.id),.v (.bool v2.gone),.nv 127,.nv 128,.v (.int .i64 v2.n),.v (ptr (hA A (THp.mk v2.q 1)) 0)] 62),(128,ptT eTOp (payI A0) 62 128 v2.rt),(129,eqP 126 124)] [(125,holeX eTOp (payI A0) 62 1 127 q0.root v2.lf)] [] (holeXL (enc:=eTOp) (isn_f h1) (pc:=.v (ptr (hA A (THp.mk v2.q 1)) 0)) 125 1 124 126 127 128 129 (payI_cl hpre_ (by rw [hL_0];exact h2))) ⟨R,R,R,R,trivial⟩ R R R R<|At.ag ⟨(n0,(v1,v2.lf,v3),A),H1,hL_9,hpre_,hqp_⟩ [(124,127)] [_,_,_,_,_,_,_,_] (Nat.lt_succ_self _) R ⟨R,R,R,R,R,R,trivial⟩ ⟨R,(blk_ren R R),R,(lrow_ren R),R,(blk_ren R R),R,(lrow_ren R),R,(blk_ren R R),R,(ptT_ren R),R,(holeX_ren R R),R,(fun _=>R),trivial⟩ R
      · cases h4
     ·
      replace H1:=bif_f H1 h3
      rcases Bool.eq_false_or_eq_true (a1 == v2.op.time) with h5 | h5
      ·
       replace H1:=bif_t H1 h5
       refine G.rg<|K.mv R R<|K.mv R R<|K.nilCheck g0 R R<|K.fieldAddr Y g0 R t62 R R<|K.fieldAddr Y g0 R t45 R R<|K.load1 Y g0 R R t3 R R<|K.bin (V:=.bool (decide (a1<v2.op.time))) g0 R R (fun _=>R) R<|K.mv R R<|K.move (.inl R) (g1 R R h3) R R<|K.move (.inl R) (g1 R R h3) R R<|K.nilCheck (g1 R R h3) R R<|K.fieldAddr Y (g1 R R h3) R t62 R R<|K.fieldAddr Y (g1 R R h3) R t45 R R<|K.load1 Y (g1 R R h3) R R t3 R R<|K.bin (V:=.bool (a1 == v2.op.time)) (g1 R R h3) R R (fun _=>R) R<|K.move (.inl R) (g1 R R h3) R R<|K.move (.inl R) (g1 R R h5) R R<|K.un (V:=.bool (!a2)) (g1 R R h5) R (fun _=>R) R<|K.pickT (g1 R R h3) R (h5) R R<|K.pickF g0 R (h3) R R<|K.nil<|At.next<|G.cond R (fun h6=>?_) (fun h6=>?_)
       ·
        replace H1:=bif_t H1 h6
        exact G.seq<|G.rg<|K.mv R R<|K.nilCheck g0 R R<|K.fieldAddr Y g0 R t62 R R<|K.load1 Y g0 R R t56 R R<|K.as R R<|K.nil<|At.next<|G.exit<|At.over_exit<|At.block_hit<|At.ent [(125,holeX eTOp (payI A0) 62 1 124 q0.root v2),(126,blk 126 [.v (.int .i64 v2.op.time),.v (.bool v2.op.insert),.v (.int .i64 v2.op.item.key),.v (.int .i64 v2.op.item.id),.v (.bool v2.gone),.nv 127,.nv 128,.v (.int .i64 v2.n),.v (ptr (hA A (THp.mk v2.q 1)) 0)] 62),(128,ptT eTOp (payI A0) 62 128 v2.rt),(129,eqP 126 124)] [(125,holeX eTOp (payI A0) 62 1 127 q0.root v2.lf)] [] (holeXL (enc:=eTOp) (isn_f h1) (pc:=.v (ptr (hA A (THp.mk v2.q 1)) 0)) 125 1 124 126 127 128 129 (payI_cl hpre_ (by rw [hL_0];exact h2))) ⟨R,R,R,R,trivial⟩ R R R R<|At.ag ⟨(n0,(v1,v2.lf,v3),A),H1,hL_9,hpre_,hqp_⟩ [(124,127)] [_,_,_,_,_,_,_,_] (Nat.lt_succ_self _) R ⟨R,R,R,R,R,R,trivial⟩ ⟨R,(blk_ren R R),R,(lrow_ren R),R,(blk_ren R R),R,(lrow_ren R),R,(blk_ren R R),R,(ptT_ren R),R,(holeX_ren R R),R,(fun _=>R),trivial⟩ R
       ·
        replace H1:=bif_f H1 h6
        refine G.skip<|At.ns<|G.seq<|G.rg<|K.mv R R<|K.nilCheck g0 R R<|K.fieldAddr Y g0 R t62 R R<|K.load1 Y g0 R R t56 R R<|K.eqnT (V:=(!v2.lf.isNil)) g0 R R R (en_neq _ Tryz.underlying56) R<|K.nil<|At.next<|G.cond R (fun h7=>?_) (fun h7=>?_)
        ·
         replace H1:=bif_t H1 h7
         obtain ⟨h8,H1⟩:=grd H1
         refine G.ent [(127,ptT eTOp (payI A0) 62 127 v2.lf)] ((139,blk 139 [.v (.int .i64 v2.lf.op.time),.v (.bool v2.lf.op.insert),.v (.int .i64 v2.lf.op.item.key),.v (.int .i64 v2.lf.op.item.id),.v (.bool v2.lf.gone),.nv 140,.nv 141,.v (.int .i64 v2.lf.n),.v (ptr (hA A (THp.mk v2.lf.q 1)) 0)] 62)::(140,ptT eTOp (payI A0) 62 140 v2.lf.lf)::(141,ptT eTOp (payI A0) 62 141 v2.lf.rt)::(142,eqP 139 127) ::  []) [139,140,141] (PT.open (enc:=eTOp) 127 139 140 141 142 (isn_f h7) (payI_op hpre_ (by rw [hL_0];exact h8)) R) ⟨R,trivial⟩ R R R R<|G.toP (t:=43) 142 R R ?_
         obtain ⟨x3,hx3,H1⟩:=bnd H1
         refine G.rd mixed<|K.loadS Y _ g0 R R t42 R R R<|K.mv R R<|K.nilCheck g0 R R<|K.fieldAddr Y g0 R t62 R R<|K.load1P Y 142 g0 R R R R t56 R R<|K.nilCheck g0 R R<|K.fieldAddr Y g0 R t62 R R<|K.load1 Y g0 R R t60 R R<|K.cV (cf 66 R) [123] (fun β w S2 h=>fuse_Views_Then_con 19 152 R (a0:=(TViews.mk v1)) hL_9 (la 0 R (eTPart_len A) R h) hx3) g0 (fun _=>R) R R R<|K.store Y _ g0 R R R t42 R R R R R<|K.nil<|And.intro (by kernel_rfl)<|At.ns<|G.seq<|G.rg<|K.mv R R<|K.nilCheck g0 R R<|K.fieldAddr Y g0 R t62 R R<|K.load1 Y g0 R R t4 R R<|K.un (V:=.bool (!v2.gone)) g0 R (fun _=>R) R<|K.nil<|At.next<|G.cond R (fun h9=>?_) (fun h9=>?_)
         ·
          replace H1:=bif_t H1 h9
          obtain ⟨x4,hx4,H1⟩:=bnd H1
          obtain ⟨h10,H1⟩:=grd H1
          obtain ⟨x5,hx5,H1⟩:=bnd H1
          refine G.rd mixed<|K.loadS Y _ g0 R R t42 R R R<|K.mv R R<|K.mv R R<|K.nilCheck g0 R R<|K.fieldAddr Y g0 R t62 R R<|K.loadS Y _ g0 R R t45 R R R<|K.buildL Y 153 ([v2.op]:List TOp) [(0,_)] [((.tmp 64),_)] eTOp_len g0 (AllE.spec ⟨R,trivial⟩) R R Tryz.underlying34 t45 R R R R R R R R<|K.cV (cf 52 R) [153] (fun β w S2 h=>tq_late1 19 hL_9 (past_Past_queue_con 0 154 155 156 157 158 159 160 161 162 1 R (la 0 R eTOp_len R h) hx4)) g0 (fun _=>R) R R R<|K.cA (ti:=[(19,hpN 19 tq A v3 qks (gN [154,155,156,157,158,159,160,161,162]) x4)]) (to:=[(19,hpN 19 tq A v3 qks (gN [154,155,156,157,158,159,160,161,162]) x4),(163,lrowA 163 79 qks (gN [154,155,156,157,158,159,160,161,162]) (fun a=>eTPart (A++[a])) 4 x5.parts)]) (cf 66 R) [152] (fun β w S2 h=>SCon.late qks (gN [154,155,156,157,158,159,160,161,162]) (fuse_Views_Then_con 19 163 R (A:=A++[adr qks (gN [154,155,156,157,158,159,160,161,162]) β]) (a0:=x3) (len_grow hL_9 _ x4) (larg_grow _ hL_9 h10 (la 0 R (eTPart_len A) R h)) hx5) (mc R (mc (hq_late hL_9 β) R)) R (fun β' e_=>by simp only [List.map_cons,List.map_nil,hpN_r,lrowA_r,e_]) (by decide)) g0 R R R<|K.store Y _ g0 R R R t42 R R R R R<|K.nil<|And.intro (by kernel_rfl)<|At.ent [(139,blk 139 [.v (.int .i64 v2.lf.op.time),.v (.bool v2.lf.op.insert),.v (.int .i64 v2.lf.op.item.key),.v (.int .i64 v2.lf.op.item.id),.v (.bool v2.lf.gone),.nv 140,.nv 141,.v (.int .i64 v2.lf.n),.v (ptr (hA A (THp.mk v2.lf.q 1)) 0)] 62),(140,ptT eTOp (payI A0) 62 140 v2.lf.lf),(141,ptT eTOp (payI A0) 62 141 v2.lf.rt),(142,eqP 139 127)] [(127,ptT eTOp (payI A0) 62 127 v2.lf),(142,eqP 139 127)] [] (PT.closeE (enc:=eTOp) (isn_f h7) (pc:=.v (ptr (hA A (THp.mk v2.lf.q 1)) 0)) 127 139 140 141 142 (payI_cl hpre_ (by rw [hL_0];exact h8))) ⟨R,R,R,R,trivial⟩ R R R R<|At.toN (t:=43) 142 R R<|At.toN (t:=49) 142 R R<|At.toN (t:=50) 142 R R<|At.ent [(126,blk 126 [.v (.int .i64 v2.op.time),.v (.bool v2.op.insert),.v (.int .i64 v2.op.item.key),.v (.int .i64 v2.op.item.id),.v (.bool v2.gone),.nv 127,.nv 128,.v (.int .i64 v2.n),.v (ptr (hA A (THp.mk v2.q 1)) 0)] 62),(127,ptT eTOp (payI A0) 62 127 v2.lf),(128,ptT eTOp (payI A0) 62 128 v2.rt),(129,eqP 126 124)] [(124,ptT eTOp (payI A0) 62 124 v2),(129,eqP 126 124)] [] (PT.closeE (enc:=eTOp) (isn_f h1) (pc:=.v (ptr (hA A (THp.mk v2.q 1)) 0)) 124 126 127 128 129 (payI_cl hpre_ (by rw [hL_0];exact h2))) ⟨R,R,R,R,trivial⟩ R R R R<|At.toN (t:=8) 129 R R<|At.toN (t:=14) 129 R R<|At.toN (t:=17) 129 R R<|At.toN (t:=18) 129 R R<|At.toN (t:=19) 129 R R<|At.toN (t:=20) 129 R R<|At.toN (t:=25) 129 R R<|At.toN (t:=26) 129 R R<|At.toN (t:=27) 129 R R<|At.toN (t:=28) 129 R R<|At.toN (t:=40) 129 R R<|At.toN (t:=41) 129 R R<|At.toN (t:=46) 129 R R<|At.toN (t:=47) 129 R R<|At.toN (t:=54) 129 R R<|At.toN (t:=55) 129 R R<|At.toN (t:=61) 129 R R<|At.toN (t:=62) 129 R R<|At.toN (t:=63) 129 R R ?_
          obtain ⟨h11,H1⟩:=grd H1
          obtain ⟨h12,H1⟩:=grd H1
          obtain ⟨h13,H1⟩:=grd H1
          refine At.fixA (e:=fun a=>eTPart (A++[a])) (j0:=1) (t:=66) 19 163 R R R (by decide) (fun a_=>?_)
          rw [parts_grow (k:=121) (l:=([]:List TPart)) a_ hL_9 h11]
          rw [parts_grow (k:=123) (l:=v1) a_ hL_9 h12]
          rw [parts_grow (k:=152) (l:=x3.parts) a_ hL_9 h10]
          rw [show hA A (THp.mk v2.lf.q 1)=hA (A++[a_]) (THp.mk v2.lf.q 1) from (hA_grow a_ (by rw [hL_9];exact h13)).symm]
          rw [hA_new a_ hL_9]
          have hL_9:=len_grow hL_9 a_ x4
          have hpre_:=prefix_grow hpre_ a_
          have hqp_:=hqp_.trans (List.prefix_append _ [x4])
          obtain ⟨A,hA_⟩ : ∃ B,B=A++[a_]:=⟨_,rfl⟩
          rw [← hA_] at hL_9 hpre_ ⊢
          refine At.next ?_
          obtain ⟨h14,H1⟩:=grd H1
          exact G.ent [(124,ptT eTOp (payI A0) 62 124 v2)] ((164,blk 164 [.v (.int .i64 v2.op.time),.v (.bool v2.op.insert),.v (.int .i64 v2.op.item.key),.v (.int .i64 v2.op.item.id),.v (.bool v2.gone),.nv 165,.nv 166,.v (.int .i64 v2.n),.v (ptr (hA A (THp.mk v2.q 1)) 0)] 62)::(165,ptT eTOp (payI A0) 62 165 v2.lf)::(166,ptT eTOp (payI A0) 62 166 v2.rt)::(167,eqP 164 124) ::  []) [164,165,166] (PT.open (enc:=eTOp) 124 164 165 166 167 (isn_f h1) (payI_op hpre_ (by rw [hL_0];exact h14)) R) ⟨R,trivial⟩ R R R R<|G.toP (t:=8) 167 R R<|G.toP (t:=14) 167 R R<|G.toP (t:=17) 167 R R<|G.toP (t:=18) 167 R R<|G.toP (t:=19) 167 R R<|G.toP (t:=20) 167 R R<|G.toP (t:=25) 167 R R<|G.toP (t:=26) 167 R R<|G.toP (t:=27) 167 R R<|G.toP (t:=28) 167 R R<|G.toP (t:=40) 167 R R<|G.toP (t:=41) 167 R R<|G.toP (t:=46) 167 R R<|G.toP (t:=47) 167 R R<|G.toP (t:=54) 167 R R<|G.toP (t:=55) 167 R R<|G.toP (t:=61) 167 R R<|G.toP (t:=62) 167 R R<|G.toP (t:=63) 167 R R<|G.rg<|K.mv R R<|K.nilCheck g0 R R<|K.fieldAddr Y g0 R t62 R R<|K.load1 Y g0 R R t56 R R<|K.as R R<|K.nil<|At.block_normal<|At.ent [(125,holeX eTOp (payI A0) 62 1 124 q0.root v2),(164,blk 164 [.v (.int .i64 v2.op.time),.v (.bool v2.op.insert),.v (.int .i64 v2.op.item.key),.v (.int .i64 v2.op.item.id),.v (.bool v2.gone),.nv 165,.nv 166,.v (.int .i64 v2.n),.v (ptr (hA A (THp.mk v2.q 1)) 0)] 62),(165,ptT eTOp (payI A0) 62 165 v2.lf),(167,eqP 164 124)] [(125,holeX eTOp (payI A0) 62 1 166 q0.root v2.rt)] [] (holeXR (enc:=eTOp) (isn_f h1) (pc:=.v (ptr (hA A (THp.mk v2.q 1)) 0)) 125 1 124 164 165 166 167 (payI_cl hpre_ (by rw [hL_0];exact h14))) ⟨R,R,R,R,trivial⟩ R R R R<|At.ag ⟨(n0,(x5.parts,v2.rt,(v3++[x4])),A),H1,hL_9,hpre_,hqp_⟩ [(123,163),(124,166)] [_,_,_,_,_,_,_,_] (Nat.lt_succ_self _) R ⟨R,R,R,R,R,R,trivial⟩ ⟨R,(blk_ren R R),R,(lrow_ren R),R,(blk_ren R R),R,(lrow_ren R),R,(blk_ren R R),R,(ptT_ren R),R,(holeX_ren R R),R,(fun _=>R),trivial⟩ R
         ·
          replace H1:=bif_f H1 h9
          exact G.skip<|At.next<|G.rg<|K.mv R R<|K.nilCheck g0 R R<|K.fieldAddr Y g0 R t62 R R<|K.load1 Y g0 R R t56 R R<|K.as R R<|K.nil<|At.block_normal<|At.ent [(139,blk 139 [.v (.int .i64 v2.lf.op.time),.v (.bool v2.lf.op.insert),.v (.int .i64 v2.lf.op.item.key),.v (.int .i64 v2.lf.op.item.id),.v (.bool v2.lf.gone),.nv 140,.nv 141,.v (.int .i64 v2.lf.n),.v (ptr (hA A (THp.mk v2.lf.q 1)) 0)] 62),(140,ptT eTOp (payI A0) 62 140 v2.lf.lf),(141,ptT eTOp (payI A0) 62 141 v2.lf.rt),(142,eqP 139 127)] [(127,ptT eTOp (payI A0) 62 127 v2.lf),(142,eqP 139 127)] [] (PT.closeE (enc:=eTOp) (isn_f h7) (pc:=.v (ptr (hA A (THp.mk v2.lf.q 1)) 0)) 127 139 140 141 142 (payI_cl hpre_ (by rw [hL_0];exact h8))) ⟨R,R,R,R,trivial⟩ R R R R<|At.toN (t:=43) 142 R R<|At.toN (t:=49) 142 R R<|At.toN (t:=50) 142 R R<|At.ent [(125,holeX eTOp (payI A0) 62 1 124 q0.root v2),(126,blk 126 [.v (.int .i64 v2.op.time),.v (.bool v2.op.insert),.v (.int .i64 v2.op.item.key),.v (.int .i64 v2.op.item.id),.v (.bool v2.gone),.nv 127,.nv 128,.v (.int .i64 v2.n),.v (ptr (hA A (THp.mk v2.q 1)) 0)] 62),(127,ptT eTOp (payI A0) 62 127 v2.lf),(129,eqP 126 124)] [(125,holeX eTOp (payI A0) 62 1 128 q0.root v2.rt)] [] (holeXR (enc:=eTOp) (isn_f h1) (pc:=.v (ptr (hA A (THp.mk v2.q 1)) 0)) 125 1 124 126 127 128 129 (payI_cl hpre_ (by rw [hL_0];exact h2))) ⟨R,R,R,R,trivial⟩ R R R R<|At.ag ⟨(n0,(x3.parts,v2.rt,v3),A),H1,hL_9,hpre_,hqp_⟩ [(123,152),(124,128)] [_,_,_,_,_,_,_,_] (Nat.lt_succ_self _) R ⟨R,R,R,R,R,R,trivial⟩ ⟨R,(blk_ren R R),R,(lrow_ren R),R,(blk_ren R R),R,(lrow_ren R),R,(blk_ren R R),R,(ptT_ren R),R,(holeX_ren R R),R,(fun _=>R),trivial⟩ R
        ·
         replace H1:=bif_f H1 h7
         refine G.skip<|At.ns<|G.seq<|G.rg<|K.mv R R<|K.nilCheck g0 R R<|K.fieldAddr Y g0 R t62 R R<|K.load1 Y g0 R R t4 R R<|K.un (V:=.bool (!v2.gone)) g0 R (fun _=>R) R<|K.nil<|At.next<|G.cond R (fun h15=>?_) (fun h15=>?_)
         ·
          replace H1:=bif_t H1 h15
          obtain ⟨x6,hx6,H1⟩:=bnd H1
          obtain ⟨h16,H1⟩:=grd H1
          obtain ⟨x7,hx7,H1⟩:=bnd H1
          refine G.rd mixed<|K.loadS Y _ g0 R R t42 R R R<|K.mv R R<|K.mv R R<|K.nilCheck g0 R R<|K.fieldAddr Y g0 R t62 R R<|K.loadS Y _ g0 R R t45 R R R<|K.buildL Y 177 ([v2.op]:List TOp) [(0,_)] [((.tmp 64),_)] eTOp_len g0 (AllE.spec ⟨R,trivial⟩) R R Tryz.underlying34 t45 R R R R R R R R<|K.cV (cf 52 R) [177] (fun β w S2 h=>tq_late1 19 hL_9 (past_Past_queue_con 0 178 179 180 181 182 183 184 185 186 1 R (la 0 R eTOp_len R h) hx6)) g0 (fun _=>R) R R R<|K.cA (ti:=[(19,hpN 19 tq A v3 qks (gN [178,179,180,181,182,183,184,185,186]) x6)]) (to:=[(19,hpN 19 tq A v3 qks (gN [178,179,180,181,182,183,184,185,186]) x6),(187,lrowA 187 79 qks (gN [178,179,180,181,182,183,184,185,186]) (fun a=>eTPart (A++[a])) 4 x7.parts)]) (cf 66 R) [123] (fun β w S2 h=>SCon.late qks (gN [178,179,180,181,182,183,184,185,186]) (fuse_Views_Then_con 19 187 R (A:=A++[adr qks (gN [178,179,180,181,182,183,184,185,186]) β]) (a0:=(TViews.mk v1)) (len_grow hL_9 _ x6) (larg_grow _ hL_9 h16 (la 0 R (eTPart_len A) R h)) hx7) (mc R (mc (hq_late hL_9 β) R)) R (fun β' e_=>by simp only [List.map_cons,List.map_nil,hpN_r,lrowA_r,e_]) (by decide)) g0 R R R<|K.store Y _ g0 R R R t42 R R R R R<|K.nil<|And.intro (by kernel_rfl)<|At.ent [(126,blk 126 [.v (.int .i64 v2.op.time),.v (.bool v2.op.insert),.v (.int .i64 v2.op.item.key),.v (.int .i64 v2.op.item.id),.v (.bool v2.gone),.nv 127,.nv 128,.v (.int .i64 v2.n),.v (ptr (hA A (THp.mk v2.q 1)) 0)] 62),(127,ptT eTOp (payI A0) 62 127 v2.lf),(128,ptT eTOp (payI A0) 62 128 v2.rt),(129,eqP 126 124)] [(124,ptT eTOp (payI A0) 62 124 v2),(129,eqP 126 124)] [] (PT.closeE (enc:=eTOp) (isn_f h1) (pc:=.v (ptr (hA A (THp.mk v2.q 1)) 0)) 124 126 127 128 129 (payI_cl hpre_ (by rw [hL_0];exact h2))) ⟨R,R,R,R,trivial⟩ R R R R<|At.toN (t:=8) 129 R R<|At.toN (t:=14) 129 R R<|At.toN (t:=17) 129 R R<|At.toN (t:=18) 129 R R<|At.toN (t:=19) 129 R R<|At.toN (t:=20) 129 R R<|At.toN (t:=25) 129 R R<|At.toN (t:=26) 129 R R<|At.toN (t:=27) 129 R R<|At.toN (t:=28) 129 R R<|At.toN (t:=40) 129 R R<|At.toN (t:=41) 129 R R<|At.toN (t:=54) 129 R R<|At.toN (t:=55) 129 R R<|At.toN (t:=61) 129 R R<|At.toN (t:=62) 129 R R<|At.toN (t:=63) 129 R R ?_
          obtain ⟨h17,H1⟩:=grd H1
          refine At.fixA (e:=fun a=>eTPart (A++[a])) (j0:=1) (t:=66) 19 187 R R R (by decide) (fun a_=>?_)
          rw [parts_grow (k:=121) (l:=([]:List TPart)) a_ hL_9 h17]
          rw [parts_grow (k:=123) (l:=v1) a_ hL_9 h16]
          rw [hA_new a_ hL_9]
          have hL_9:=len_grow hL_9 a_ x6
          have hpre_:=prefix_grow hpre_ a_
          have hqp_:=hqp_.trans (List.prefix_append _ [x6])
          obtain ⟨A,hA_⟩ : ∃ B,B=A++[a_]:=⟨_,rfl⟩
          rw [← hA_] at hL_9 hpre_ ⊢
          refine At.next ?_
          obtain ⟨h18,H1⟩:=grd H1
          exact G.ent [(124,ptT eTOp (payI A0) 62 124 v2)] ((188,blk 188 [.v (.int .i64 v2.op.time),.v (.bool v2.op.insert),.v (.int .i64 v2.op.item.key),.v (.int .i64 v2.op.item.id),.v (.bool v2.gone),.nv 189,.nv 190,.v (.int .i64 v2.n),.v (ptr (hA A (THp.mk v2.q 1)) 0)] 62)::(189,ptT eTOp (payI A0) 62 189 v2.lf)::(190,ptT eTOp (payI A0) 62 190 v2.rt)::(191,eqP 188 124) ::  []) [188,189,190] (PT.open (enc:=eTOp) 124 188 189 190 191 (isn_f h1) (payI_op hpre_ (by rw [hL_0];exact h18)) R) ⟨R,trivial⟩ R R R R<|G.toP (t:=8) 191 R R<|G.toP (t:=14) 191 R R<|G.toP (t:=17) 191 R R<|G.toP (t:=18) 191 R R<|G.toP (t:=19) 191 R R<|G.toP (t:=20) 191 R R<|G.toP (t:=25) 191 R R<|G.toP (t:=26) 191 R R<|G.toP (t:=27) 191 R R<|G.toP (t:=28) 191 R R<|G.toP (t:=40) 191 R R<|G.toP (t:=41) 191 R R<|G.toP (t:=54) 191 R R<|G.toP (t:=55) 191 R R<|G.toP (t:=61) 191 R R<|G.toP (t:=62) 191 R R<|G.toP (t:=63) 191 R R<|G.rg<|K.mv R R<|K.nilCheck g0 R R<|K.fieldAddr Y g0 R t62 R R<|K.load1 Y g0 R R t56 R R<|K.as R R<|K.nil<|At.block_normal<|At.ent [(125,holeX eTOp (payI A0) 62 1 124 q0.root v2),(188,blk 188 [.v (.int .i64 v2.op.time),.v (.bool v2.op.insert),.v (.int .i64 v2.op.item.key),.v (.int .i64 v2.op.item.id),.v (.bool v2.gone),.nv 189,.nv 190,.v (.int .i64 v2.n),.v (ptr (hA A (THp.mk v2.q 1)) 0)] 62),(189,ptT eTOp (payI A0) 62 189 v2.lf),(191,eqP 188 124)] [(125,holeX eTOp (payI A0) 62 1 190 q0.root v2.rt)] [] (holeXR (enc:=eTOp) (isn_f h1) (pc:=.v (ptr (hA A (THp.mk v2.q 1)) 0)) 125 1 124 188 189 190 191 (payI_cl hpre_ (by rw [hL_0];exact h18))) ⟨R,R,R,R,trivial⟩ R R R R<|At.ag ⟨(n0,(x7.parts,v2.rt,(v3++[x6])),A),H1,hL_9,hpre_,hqp_⟩ [(123,187),(124,190)] [_,_,_,_,_,_,_,_] (Nat.lt_succ_self _) R ⟨R,R,R,R,R,R,trivial⟩ ⟨R,(blk_ren R R),R,(lrow_ren R),R,(blk_ren R R),R,(lrow_ren R),R,(blk_ren R R),R,(ptT_ren R),R,(holeX_ren R R),R,(fun _=>R),trivial⟩ R
         ·
          replace H1:=bif_f H1 h15
          exact G.skip<|At.next<|G.rg<|K.mv R R<|K.nilCheck g0 R R<|K.fieldAddr Y g0 R t62 R R<|K.load1 Y g0 R R t56 R R<|K.as R R<|K.nil<|At.block_normal<|At.ent [(125,holeX eTOp (payI A0) 62 1 124 q0.root v2),(126,blk 126 [.v (.int .i64 v2.op.time),.v (.bool v2.op.insert),.v (.int .i64 v2.op.item.key),.v (.int .i64 v2.op.item.id),.v (.bool v2.gone),.nv 127,.nv 128,.v (.int .i64 v2.n),.v (ptr (hA A (THp.mk v2.q 1)) 0)] 62),(127,ptT eTOp (payI A0) 62 127 v2.lf),(129,eqP 126 124)] [(125,holeX eTOp (payI A0) 62 1 128 q0.root v2.rt)] [] (holeXR (enc:=eTOp) (isn_f h1) (pc:=.v (ptr (hA A (THp.mk v2.q 1)) 0)) 125 1 124 126 127 128 129 (payI_cl hpre_ (by rw [hL_0];exact h2))) ⟨R,R,R,R,trivial⟩ R R R R<|At.ag ⟨(n0,(v1,v2.rt,v3),A),H1,hL_9,hpre_,hqp_⟩ [(124,128)] [_,_,_,_,_,_,_,_] (Nat.lt_succ_self _) R ⟨R,R,R,R,R,R,trivial⟩ ⟨R,(blk_ren R R),R,(lrow_ren R),R,(blk_ren R R),R,(lrow_ren R),R,(blk_ren R R),R,(ptT_ren R),R,(holeX_ren R R),R,(fun _=>R),trivial⟩ R
      ·
       replace H1:=bif_f H1 h5
       refine G.rg<|K.mv R R<|K.mv R R<|K.nilCheck g0 R R<|K.fieldAddr Y g0 R t62 R R<|K.fieldAddr Y g0 R t45 R R<|K.load1 Y g0 R R t3 R R<|K.bin (V:=.bool (decide (a1<v2.op.time))) g0 R R (fun _=>R) R<|K.mv R R<|K.move (.inl R) (g1 R R h3) R R<|K.move (.inl R) (g1 R R h3) R R<|K.nilCheck (g1 R R h3) R R<|K.fieldAddr Y (g1 R R h3) R t62 R R<|K.fieldAddr Y (g1 R R h3) R t45 R R<|K.load1 Y (g1 R R h3) R R t3 R R<|K.bin (V:=.bool (a1 == v2.op.time)) (g1 R R h3) R R (fun _=>R) R<|K.move (.inl R) (g1 R R h3) R R<|K.sk R R h5 R<|K.sk R R h5 R<|K.pickF (g1 R R h3) R (h5) R R<|K.pickF g0 R (h3) R R<|K.nil<|At.next<|G.cond R (fun h19=>?_) (fun h19=>?_)
       · cases h19
       ·
        refine G.skip<|At.ns<|G.seq<|G.rg<|K.mv R R<|K.nilCheck g0 R R<|K.fieldAddr Y g0 R t62 R R<|K.load1 Y g0 R R t56 R R<|K.eqnT (V:=(!v2.lf.isNil)) g0 R R R (en_neq _ Tryz.underlying56) R<|K.nil<|At.next<|G.cond R (fun h20=>?_) (fun h20=>?_)
        ·
         replace H1:=bif_t H1 h20
         obtain ⟨h21,H1⟩:=grd H1
         refine G.ent [(127,ptT eTOp (payI A0) 62 127 v2.lf)] ((201,blk 201 [.v (.int .i64 v2.lf.op.time),.v (.bool v2.lf.op.insert),.v (.int .i64 v2.lf.op.item.key),.v (.int .i64 v2.lf.op.item.id),.v (.bool v2.lf.gone),.nv 202,.nv 203,.v (.int .i64 v2.lf.n),.v (ptr (hA A (THp.mk v2.lf.q 1)) 0)] 62)::(202,ptT eTOp (payI A0) 62 202 v2.lf.lf)::(203,ptT eTOp (payI A0) 62 203 v2.lf.rt)::(204,eqP 201 127) ::  []) [201,202,203] (PT.open (enc:=eTOp) 127 201 202 203 204 (isn_f h20) (payI_op hpre_ (by rw [hL_0];exact h21)) R) ⟨R,trivial⟩ R R R R<|G.toP (t:=43) 204 R R ?_
         obtain ⟨x8,hx8,H1⟩:=bnd H1
         refine G.rd mixed<|K.loadS Y _ g0 R R t42 R R R<|K.mv R R<|K.nilCheck g0 R R<|K.fieldAddr Y g0 R t62 R R<|K.load1P Y 204 g0 R R R R t56 R R<|K.nilCheck g0 R R<|K.fieldAddr Y g0 R t62 R R<|K.load1 Y g0 R R t60 R R<|K.cV (cf 66 R) [123] (fun β w S2 h=>fuse_Views_Then_con 19 214 R (a0:=(TViews.mk v1)) hL_9 (la 0 R (eTPart_len A) R h) hx8) g0 (fun _=>R) R R R<|K.store Y _ g0 R R R t42 R R R R R<|K.nil<|And.intro (by kernel_rfl)<|At.ns<|G.seq<|G.rg<|K.mv R R<|K.nilCheck g0 R R<|K.fieldAddr Y g0 R t62 R R<|K.load1 Y g0 R R t4 R R<|K.un (V:=.bool (!v2.gone)) g0 R (fun _=>R) R<|K.nil<|At.next<|G.cond R (fun h22=>?_) (fun h22=>?_)
         ·
          replace H1:=bif_t H1 h22
          obtain ⟨x9,hx9,H1⟩:=bnd H1
          obtain ⟨h23,H1⟩:=grd H1
          obtain ⟨x10,hx10,H1⟩:=bnd H1
          refine G.rd mixed<|K.loadS Y _ g0 R R t42 R R R<|K.mv R R<|K.mv R R<|K.nilCheck g0 R R<|K.fieldAddr Y g0 R t62 R R<|K.loadS Y _ g0 R R t45 R R R<|K.buildL Y 215 ([v2.op]:List TOp) [(0,_)] [((.tmp 64),_)] eTOp_len g0 (AllE.spec ⟨R,trivial⟩) R R Tryz.underlying34 t45 R R R R R R R R<|K.cV (cf 52 R) [215] (fun β w S2 h=>tq_late1 19 hL_9 (past_Past_queue_con 0 216 217 218 219 220 221 222 223 224 1 R (la 0 R eTOp_len R h) hx9)) g0 (fun _=>R) R R R<|K.cA (ti:=[(19,hpN 19 tq A v3 qks (gN [216,217,218,219,220,221,222,223,224]) x9)]) (to:=[(19,hpN 19 tq A v3 qks (gN [216,217,218,219,220,221,222,223,224]) x9),(225,lrowA 225 79 qks (gN [216,217,218,219,220,221,222,223,224]) (fun a=>eTPart (A++[a])) 4 x10.parts)]) (cf 66 R) [214] (fun β w S2 h=>SCon.late qks (gN [216,217,218,219,220,221,222,223,224]) (fuse_Views_Then_con 19 225 R (A:=A++[adr qks (gN [216,217,218,219,220,221,222,223,224]) β]) (a0:=x8) (len_grow hL_9 _ x9) (larg_grow _ hL_9 h23 (la 0 R (eTPart_len A) R h)) hx10) (mc R (mc (hq_late hL_9 β) R)) R (fun β' e_=>by simp only [List.map_cons,List.map_nil,hpN_r,lrowA_r,e_]) (by decide)) g0 R R R<|K.store Y _ g0 R R R t42 R R R R R<|K.nil<|And.intro (by kernel_rfl)<|At.ent [(201,blk 201 [.v (.int .i64 v2.lf.op.time),.v (.bool v2.lf.op.insert),.v (.int .i64 v2.lf.op.item.key),.v (.int .i64 v2.lf.op.item.id),.v (.bool v2.lf.gone),.nv 202,.nv 203,.v (.int .i64 v2.lf.n),.v (ptr (hA A (THp.mk v2.lf.q 1)) 0)] 62),(202,ptT eTOp (payI A0) 62 202 v2.lf.lf),(203,ptT eTOp (payI A0) 62 203 v2.lf.rt),(204,eqP 201 127)] [(127,ptT eTOp (payI A0) 62 127 v2.lf),(204,eqP 201 127)] [] (PT.closeE (enc:=eTOp) (isn_f h20) (pc:=.v (ptr (hA A (THp.mk v2.lf.q 1)) 0)) 127 201 202 203 204 (payI_cl hpre_ (by rw [hL_0];exact h21))) ⟨R,R,R,R,trivial⟩ R R R R<|At.toN (t:=43) 204 R R<|At.toN (t:=49) 204 R R<|At.toN (t:=50) 204 R R<|At.ent [(126,blk 126 [.v (.int .i64 v2.op.time),.v (.bool v2.op.insert),.v (.int .i64 v2.op.item.key),.v (.int .i64 v2.op.item.id),.v (.bool v2.gone),.nv 127,.nv 128,.v (.int .i64 v2.n),.v (ptr (hA A (THp.mk v2.q 1)) 0)] 62),(127,ptT eTOp (payI A0) 62 127 v2.lf),(128,ptT eTOp (payI A0) 62 128 v2.rt),(129,eqP 126 124)] [(124,ptT eTOp (payI A0) 62 124 v2),(129,eqP 126 124)] [] (PT.closeE (enc:=eTOp) (isn_f h1) (pc:=.v (ptr (hA A (THp.mk v2.q 1)) 0)) 124 126 127 128 129 (payI_cl hpre_ (by rw [hL_0];exact h2))) ⟨R,R,R,R,trivial⟩ R R R R<|At.toN (t:=8) 129 R R<|At.toN (t:=14) 129 R R<|At.toN (t:=17) 129 R R<|At.toN (t:=18) 129 R R<|At.toN (t:=19) 129 R R<|At.toN (t:=20) 129 R R<|At.toN (t:=25) 129 R R<|At.toN (t:=26) 129 R R<|At.toN (t:=27) 129 R R<|At.toN (t:=28) 129 R R<|At.toN (t:=40) 129 R R<|At.toN (t:=41) 129 R R<|At.toN (t:=46) 129 R R<|At.toN (t:=47) 129 R R<|At.toN (t:=54) 129 R R<|At.toN (t:=55) 129 R R<|At.toN (t:=61) 129 R R<|At.toN (t:=62) 129 R R<|At.toN (t:=63) 129 R R ?_
          obtain ⟨h24,H1⟩:=grd H1
          obtain ⟨h25,H1⟩:=grd H1
          obtain ⟨h26,H1⟩:=grd H1
          refine At.fixA (e:=fun a=>eTPart (A++[a])) (j0:=1) (t:=66) 19 225 R R R (by decide) (fun a_=>?_)
          rw [parts_grow (k:=121) (l:=([]:List TPart)) a_ hL_9 h24]
          rw [parts_grow (k:=123) (l:=v1) a_ hL_9 h25]
          rw [parts_grow (k:=214) (l:=x8.parts) a_ hL_9 h23]
          rw [show hA A (THp.mk v2.lf.q 1)=hA (A++[a_]) (THp.mk v2.lf.q 1) from (hA_grow a_ (by rw [hL_9];exact h26)).symm]
          rw [hA_new a_ hL_9]
          have hL_9:=len_grow hL_9 a_ x9
          have hpre_:=prefix_grow hpre_ a_
          have hqp_:=hqp_.trans (List.prefix_append _ [x9])
          obtain ⟨A,hA_⟩ : ∃ B,B=A++[a_]:=⟨_,rfl⟩
          rw [← hA_] at hL_9 hpre_ ⊢
          refine At.next ?_
          obtain ⟨h27,H1⟩:=grd H1
          exact G.ent [(124,ptT eTOp (payI A0) 62 124 v2)] ((226,blk 226 [.v (.int .i64 v2.op.time),.v (.bool v2.op.insert),.v (.int .i64 v2.op.item.key),.v (.int .i64 v2.op.item.id),.v (.bool v2.gone),.nv 227,.nv 228,.v (.int .i64 v2.n),.v (ptr (hA A (THp.mk v2.q 1)) 0)] 62)::(227,ptT eTOp (payI A0) 62 227 v2.lf)::(228,ptT eTOp (payI A0) 62 228 v2.rt)::(229,eqP 226 124) ::  []) [226,227,228] (PT.open (enc:=eTOp) 124 226 227 228 229 (isn_f h1) (payI_op hpre_ (by rw [hL_0];exact h27)) R) ⟨R,trivial⟩ R R R R<|G.toP (t:=8) 229 R R<|G.toP (t:=14) 229 R R<|G.toP (t:=17) 229 R R<|G.toP (t:=18) 229 R R<|G.toP (t:=19) 229 R R<|G.toP (t:=20) 229 R R<|G.toP (t:=25) 229 R R<|G.toP (t:=26) 229 R R<|G.toP (t:=27) 229 R R<|G.toP (t:=28) 229 R R<|G.toP (t:=40) 229 R R<|G.toP (t:=41) 229 R R<|G.toP (t:=46) 229 R R<|G.toP (t:=47) 229 R R<|G.toP (t:=54) 229 R R<|G.toP (t:=55) 229 R R<|G.toP (t:=61) 229 R R<|G.toP (t:=62) 229 R R<|G.toP (t:=63) 229 R R<|G.rg<|K.mv R R<|K.nilCheck g0 R R<|K.fieldAddr Y g0 R t62 R R<|K.load1 Y g0 R R t56 R R<|K.as R R<|K.nil<|At.block_normal<|At.ent [(125,holeX eTOp (payI A0) 62 1 124 q0.root v2),(226,blk 226 [.v (.int .i64 v2.op.time),.v (.bool v2.op.insert),.v (.int .i64 v2.op.item.key),.v (.int .i64 v2.op.item.id),.v (.bool v2.gone),.nv 227,.nv 228,.v (.int .i64 v2.n),.v (ptr (hA A (THp.mk v2.q 1)) 0)] 62),(227,ptT eTOp (payI A0) 62 227 v2.lf),(229,eqP 226 124)] [(125,holeX eTOp (payI A0) 62 1 228 q0.root v2.rt)] [] (holeXR (enc:=eTOp) (isn_f h1) (pc:=.v (ptr (hA A (THp.mk v2.q 1)) 0)) 125 1 124 226 227 228 229 (payI_cl hpre_ (by rw [hL_0];exact h27))) ⟨R,R,R,R,trivial⟩ R R R R<|At.ag ⟨(n0,(x10.parts,v2.rt,(v3++[x9])),A),H1,hL_9,hpre_,hqp_⟩ [(123,225),(124,228)] [_,_,_,_,_,_,_,_] (Nat.lt_succ_self _) R ⟨R,R,R,R,R,R,trivial⟩ ⟨R,(blk_ren R R),R,(lrow_ren R),R,(blk_ren R R),R,(lrow_ren R),R,(blk_ren R R),R,(ptT_ren R),R,(holeX_ren R R),R,(fun _=>R),trivial⟩ R
         ·
          replace H1:=bif_f H1 h22
          exact G.skip<|At.next<|G.rg<|K.mv R R<|K.nilCheck g0 R R<|K.fieldAddr Y g0 R t62 R R<|K.load1 Y g0 R R t56 R R<|K.as R R<|K.nil<|At.block_normal<|At.ent [(201,blk 201 [.v (.int .i64 v2.lf.op.time),.v (.bool v2.lf.op.insert),.v (.int .i64 v2.lf.op.item.key),.v (.int .i64 v2.lf.op.item.id),.v (.bool v2.lf.gone),.nv 202,.nv 203,.v (.int .i64 v2.lf.n),.v (ptr (hA A (THp.mk v2.lf.q 1)) 0)] 62),(202,ptT eTOp (payI A0) 62 202 v2.lf.lf),(203,ptT eTOp (payI A0) 62 203 v2.lf.rt),(204,eqP 201 127)] [(127,ptT eTOp (payI A0) 62 127 v2.lf),(204,eqP 201 127)] [] (PT.closeE (enc:=eTOp) (isn_f h20) (pc:=.v (ptr (hA A (THp.mk v2.lf.q 1)) 0)) 127 201 202 203 204 (payI_cl hpre_ (by rw [hL_0];exact h21))) ⟨R,R,R,R,trivial⟩ R R R R<|At.toN (t:=43) 204 R R<|At.toN (t:=49) 204 R R<|At.toN (t:=50) 204 R R<|At.ent [(125,holeX eTOp (payI A0) 62 1 124 q0.root v2),(126,blk 126 [.v (.int .i64 v2.op.time),.v (.bool v2.op.insert),.v (.int .i64 v2.op.item.key),.v (.int .i64 v2.op.item.id),.v (.bool v2.gone),.nv 127,.nv 128,.v (.int .i64 v2.n),.v (ptr (hA A (THp.mk v2.q 1)) 0)] 62),(127,ptT eTOp (payI A0) 62 127 v2.lf),(129,eqP 126 124)] [(125,holeX eTOp (payI A0) 62 1 128 q0.root v2.rt)] [] (holeXR (enc:=eTOp) (isn_f h1) (pc:=.v (ptr (hA A (THp.mk v2.q 1)) 0)) 125 1 124 126 127 128 129 (payI_cl hpre_ (by rw [hL_0];exact h2))) ⟨R,R,R,R,trivial⟩ R R R R<|At.ag ⟨(n0,(x8.parts,v2.rt,v3),A),H1,hL_9,hpre_,hqp_⟩ [(123,214),(124,128)] [_,_,_,_,_,_,_,_] (Nat.lt_succ_self _) R ⟨R,R,R,R,R,R,trivial⟩ ⟨R,(blk_ren R R),R,(lrow_ren R),R,(blk_ren R R),R,(lrow_ren R),R,(blk_ren R R),R,(ptT_ren R),R,(holeX_ren R R),R,(fun _=>R),trivial⟩ R
        ·
         replace H1:=bif_f H1 h20
         refine G.skip<|At.ns<|G.seq<|G.rg<|K.mv R R<|K.nilCheck g0 R R<|K.fieldAddr Y g0 R t62 R R<|K.load1 Y g0 R R t4 R R<|K.un (V:=.bool (!v2.gone)) g0 R (fun _=>R) R<|K.nil<|At.next<|G.cond R (fun h28=>?_) (fun h28=>?_)
         ·
          replace H1:=bif_t H1 h28
          obtain ⟨x11,hx11,H1⟩:=bnd H1
          obtain ⟨h29,H1⟩:=grd H1
          obtain ⟨x12,hx12,H1⟩:=bnd H1
          refine G.rd mixed<|K.loadS Y _ g0 R R t42 R R R<|K.mv R R<|K.mv R R<|K.nilCheck g0 R R<|K.fieldAddr Y g0 R t62 R R<|K.loadS Y _ g0 R R t45 R R R<|K.buildL Y 239 ([v2.op]:List TOp) [(0,_)] [((.tmp 64),_)] eTOp_len g0 (AllE.spec ⟨R,trivial⟩) R R Tryz.underlying34 t45 R R R R R R R R<|K.cV (cf 52 R) [239] (fun β w S2 h=>tq_late1 19 hL_9 (past_Past_queue_con 0 240 241 242 243 244 245 246 247 248 1 R (la 0 R eTOp_len R h) hx11)) g0 (fun _=>R) R R R<|K.cA (ti:=[(19,hpN 19 tq A v3 qks (gN [240,241,242,243,244,245,246,247,248]) x11)]) (to:=[(19,hpN 19 tq A v3 qks (gN [240,241,242,243,244,245,246,247,248]) x11),(249,lrowA 249 79 qks (gN [240,241,242,243,244,245,246,247,248]) (fun a=>eTPart (A++[a])) 4 x12.parts)]) (cf 66 R) [123] (fun β w S2 h=>SCon.late qks (gN [240,241,242,243,244,245,246,247,248]) (fuse_Views_Then_con 19 249 R (A:=A++[adr qks (gN [240,241,242,243,244,245,246,247,248]) β]) (a0:=(TViews.mk v1)) (len_grow hL_9 _ x11) (larg_grow _ hL_9 h29 (la 0 R (eTPart_len A) R h)) hx12) (mc R (mc (hq_late hL_9 β) R)) R (fun β' e_=>by simp only [List.map_cons,List.map_nil,hpN_r,lrowA_r,e_]) (by decide)) g0 R R R<|K.store Y _ g0 R R R t42 R R R R R<|K.nil<|And.intro (by kernel_rfl)<|At.ent [(126,blk 126 [.v (.int .i64 v2.op.time),.v (.bool v2.op.insert),.v (.int .i64 v2.op.item.key),.v (.int .i64 v2.op.item.id),.v (.bool v2.gone),.nv 127,.nv 128,.v (.int .i64 v2.n),.v (ptr (hA A (THp.mk v2.q 1)) 0)] 62),(127,ptT eTOp (payI A0) 62 127 v2.lf),(128,ptT eTOp (payI A0) 62 128 v2.rt),(129,eqP 126 124)] [(124,ptT eTOp (payI A0) 62 124 v2),(129,eqP 126 124)] [] (PT.closeE (enc:=eTOp) (isn_f h1) (pc:=.v (ptr (hA A (THp.mk v2.q 1)) 0)) 124 126 127 128 129 (payI_cl hpre_ (by rw [hL_0];exact h2))) ⟨R,R,R,R,trivial⟩ R R R R<|At.toN (t:=8) 129 R R<|At.toN (t:=14) 129 R R<|At.toN (t:=17) 129 R R<|At.toN (t:=18) 129 R R<|At.toN (t:=19) 129 R R<|At.toN (t:=20) 129 R R<|At.toN (t:=25) 129 R R<|At.toN (t:=26) 129 R R<|At.toN (t:=27) 129 R R<|At.toN (t:=28) 129 R R<|At.toN (t:=40) 129 R R<|At.toN (t:=41) 129 R R<|At.toN (t:=54) 129 R R<|At.toN (t:=55) 129 R R<|At.toN (t:=61) 129 R R<|At.toN (t:=62) 129 R R<|At.toN (t:=63) 129 R R ?_
          obtain ⟨h30,H1⟩:=grd H1
          refine At.fixA (e:=fun a=>eTPart (A++[a])) (j0:=1) (t:=66) 19 249 R R R (by decide) (fun a_=>?_)
          rw [parts_grow (k:=121) (l:=([]:List TPart)) a_ hL_9 h30]
          rw [parts_grow (k:=123) (l:=v1) a_ hL_9 h29]
          rw [hA_new a_ hL_9]
          have hL_9:=len_grow hL_9 a_ x11
          have hpre_:=prefix_grow hpre_ a_
          have hqp_:=hqp_.trans (List.prefix_append _ [x11])
          obtain ⟨A,hA_⟩ : ∃ B,B=A++[a_]:=⟨_,rfl⟩
          rw [← hA_] at hL_9 hpre_ ⊢
          refine At.next ?_
          obtain ⟨h31,H1⟩:=grd H1
          exact G.ent [(124,ptT eTOp (payI A0) 62 124 v2)] ((250,blk 250 [.v (.int .i64 v2.op.time),.v (.bool v2.op.insert),.v (.int .i64 v2.op.item.key),.v (.int .i64 v2.op.item.id),.v (.bool v2.gone),.nv 251,.nv 252,.v (.int .i64 v2.n),.v (ptr (hA A (THp.mk v2.q 1)) 0)] 62)::(251,ptT eTOp (payI A0) 62 251 v2.lf)::(252,ptT eTOp (payI A0) 62 252 v2.rt)::(253,eqP 250 124) ::  []) [250,251,252] (PT.open (enc:=eTOp) 124 250 251 252 253 (isn_f h1) (payI_op hpre_ (by rw [hL_0];exact h31)) R) ⟨R,trivial⟩ R R R R<|G.toP (t:=8) 253 R R<|G.toP (t:=14) 253 R R<|G.toP (t:=17) 253 R R<|G.toP (t:=18) 253 R R<|G.toP (t:=19) 253 R R<|G.toP (t:=20) 253 R R<|G.toP (t:=25) 253 R R<|G.toP (t:=26) 253 R R<|G.toP (t:=27) 253 R R<|G.toP (t:=28) 253 R R<|G.toP (t:=40) 253 R R<|G.toP (t:=41) 253 R R<|G.toP (t:=54) 253 R R<|G.toP (t:=55) 253 R R<|G.toP (t:=61) 253 R R<|G.toP (t:=62) 253 R R<|G.toP (t:=63) 253 R R<|G.rg<|K.mv R R<|K.nilCheck g0 R R<|K.fieldAddr Y g0 R t62 R R<|K.load1 Y g0 R R t56 R R<|K.as R R<|K.nil<|At.block_normal<|At.ent [(125,holeX eTOp (payI A0) 62 1 124 q0.root v2),(250,blk 250 [.v (.int .i64 v2.op.time),.v (.bool v2.op.insert),.v (.int .i64 v2.op.item.key),.v (.int .i64 v2.op.item.id),.v (.bool v2.gone),.nv 251,.nv 252,.v (.int .i64 v2.n),.v (ptr (hA A (THp.mk v2.q 1)) 0)] 62),(251,ptT eTOp (payI A0) 62 251 v2.lf),(253,eqP 250 124)] [(125,holeX eTOp (payI A0) 62 1 252 q0.root v2.rt)] [] (holeXR (enc:=eTOp) (isn_f h1) (pc:=.v (ptr (hA A (THp.mk v2.q 1)) 0)) 125 1 124 250 251 252 253 (payI_cl hpre_ (by rw [hL_0];exact h31))) ⟨R,R,R,R,trivial⟩ R R R R<|At.ag ⟨(n0,(x12.parts,v2.rt,(v3++[x11])),A),H1,hL_9,hpre_,hqp_⟩ [(123,249),(124,252)] [_,_,_,_,_,_,_,_] (Nat.lt_succ_self _) R ⟨R,R,R,R,R,R,trivial⟩ ⟨R,(blk_ren R R),R,(lrow_ren R),R,(blk_ren R R),R,(lrow_ren R),R,(blk_ren R R),R,(ptT_ren R),R,(holeX_ren R R),R,(fun _=>R),trivial⟩ R
         ·
          replace H1:=bif_f H1 h28
          exact G.skip<|At.next<|G.rg<|K.mv R R<|K.nilCheck g0 R R<|K.fieldAddr Y g0 R t62 R R<|K.load1 Y g0 R R t56 R R<|K.as R R<|K.nil<|At.block_normal<|At.ent [(125,holeX eTOp (payI A0) 62 1 124 q0.root v2),(126,blk 126 [.v (.int .i64 v2.op.time),.v (.bool v2.op.insert),.v (.int .i64 v2.op.item.key),.v (.int .i64 v2.op.item.id),.v (.bool v2.gone),.nv 127,.nv 128,.v (.int .i64 v2.n),.v (ptr (hA A (THp.mk v2.q 1)) 0)] 62),(127,ptT eTOp (payI A0) 62 127 v2.lf),(129,eqP 126 124)] [(125,holeX eTOp (payI A0) 62 1 128 q0.root v2.rt)] [] (holeXR (enc:=eTOp) (isn_f h1) (pc:=.v (ptr (hA A (THp.mk v2.q 1)) 0)) 125 1 124 126 127 128 129 (payI_cl hpre_ (by rw [hL_0];exact h2))) ⟨R,R,R,R,trivial⟩ R R R R<|At.ag ⟨(n0,(v1,v2.rt,v3),A),H1,hL_9,hpre_,hqp_⟩ [(124,128)] [_,_,_,_,_,_,_,_] (Nat.lt_succ_self _) R ⟨R,R,R,R,R,R,trivial⟩ ⟨R,(blk_ren R R),R,(lrow_ren R),R,(blk_ren R R),R,(lrow_ren R),R,(blk_ren R R),R,(ptT_ren R),R,(holeX_ren R R),R,(fun _=>R),trivial⟩ R
    ·
     replace H1:=bif_f H1 h1
     exact G.exit<|At.over_exit<|At.over_exit<|At.block_hit<|At.ent [(125,holeX eTOp (payI A0) 62 1 124 q0.root v2),(124,ptT eTOp (payI A0) 62 124 v2)] [(1,ptT eTOp (payI A0) 62 1 q0.root)] [] (plugX 125 1 124) ⟨R,R,trivial⟩ R R R R<|At.jd ⟨((v1,v3),A),oi H1,hL_9,hpre_,hqp_⟩ [(104,120),(105,121),(106,122),(107,123)] [_,_,_,_,_,_,_] R ⟨R,R,trivial⟩ ⟨R,(lrow_ren R),R,(blk_ren R R),R,(lrow_ren R),R,(blk_ren R R),R,(fun _=>R),R,(ptT_ren R),R,(blk_ren R R),trivial⟩ R
 ·
  rintro ⟨⟨y_,A⟩,e_,hL_9,hpre_,hqp_⟩
  dsimp only at e_ ⊢
  subst e_
  show G _ _ [(6,.a (.c (.p 104 0))),(7,.a (.c (.p 106 0)))] [(105,some (lrow 105 79 (eTPart A) 4 ([]:List TPart))),(104,some (blk 104 [.nv 105] 42)),(107,some (lrow 107 79 (eTPart A) 4 x2.1)),(106,some (blk 106 [.nv 107] 42)),(19,some (hp 19 tq A x2.2)),(1,some (ptT eTOp (payI A0) 62 1 q0.root)),(0,some (blk 0 [.v (.int .i64 q0.capacity),.nv 1] 58))] _ _
  refine G.seq<|G.rg<|K.loadS Y _ g0 R R t42 R R R<|K.store Y _ g0 R R R t42 R R R R R<|K.nil<|At.next<|G.ret<|At.ent [(19,hp 19 tq A x2.2),(107,lrow 107 79 (eTPart A) 4 x2.1)] [(107,pkV 107 A0 Q 79 4 x2.2 x2.1)] [] (pk_in 19 107 hpre_ hL_9 hqp_) ⟨R,R,trivial⟩ R R R R<|At.ren (fs':=[(6,.a (.c (.p 104 0)))]) (tl:=[(0,blk 0 [.v (.int .i64 q0.capacity),.nv 1] 58),(1,ptT eTOp (payI A0) 62 1 q0.root),(60,pkV 60 A0 Q 79 4 x2.2 x2.1),(104,blk 104 [.nv 60] 42)]) [(60,107)] [_,_,_,_] R ⟨R,trivial⟩ ⟨R,(blk_ren R R),R,(ptT_ren R),R,(pkV_ren R),R,(blk_ren R R),trivial⟩ R<|At.done Y [(.cell 6 42,.agg [_])] R ⟨.st R R t42 R R,trivial⟩ (to':=[(0,_),(1,_),(60,_)]) ⟨R,R,R,trivial⟩ ?_ ?_ R R R (.inl R)
  · cases H0;rfl
  · cases H0;rfl
theorem past_Past_until_con (m19 m0 m1 m60:Nat) (hd:ndB [m19,m0,m1,m60]=true):past_Past_until_st m19 m0 m1 m60:=fun hL_0 H0=>cnB [(19,m19),(0,m0),(1,m1),(60,m60)] hd (past_Past_until_con0 hL_0 H0)
abbrev past_Past_At_st (m19 m0 m1 m60:Nat):Prop:=∀ {k:Nat} {A0:List (Nat→Nat)} {Q:List TQueue} {q0:TPastI} {a1:Int} {r:TViews×List TQueue} (hL_0:A0.length=Q.length) (H0:past_Past_At.f k Q q0 a1=some r),SCon Tryz.prog 18 [SV.p m0 0,.a (.c (.v (.int .i64 a1)))] [(m19,hp m19 tq A0 Q),(m0,blk m0 [.v (.int .i64 q0.capacity),.nv m1] 58),(m1,ptT eTOp (payI A0) 62 m1 q0.root)] (.a (.agg [.nv m60])) [(m0,blk m0 [.v (.int .i64 q0.capacity),.nv m1] 58),(m1,ptT eTOp (payI A0) 62 m1 q0.root),(m60,pkV m60 A0 Q 79 4 r.2 (r.1.parts))] [m60]
theorem past_Past_At_con0:past_Past_At_st 19 0 1 60:=by
 intro k A0 Q q0 a1 r hL_0 H0
 rw [past_Past_At.f] at H0
 exact M.s Tryz.func18 Tryz.ntmps18 R fun β W F=>by obtain ⟨A,hA_⟩ : ∃ B,B=A0:=⟨_,R⟩;exact xg 4 [100] R<|At.nilBlk (n:=100) (l':=[_]) 0 101 79 (eTPart A) 4 R R R R R<|xa 2 [] R<|M.b H0 fun x1 hx1 H0=>xg 3 [] R<|K.cC (cf 39 R) [] (fun β w S2 h=>SCon.rd0 (past_Past_until_con 19 0 1 102 R hL_0 hx1) S2 w h) g0 (fun _=>R) R R R<|xk 4 [] R<|by cases H0;exact ZR [(60,102)]
theorem past_Past_At_con (m19 m0 m1 m60:Nat) (hd:ndB [m19,m0,m1,m60]=true):past_Past_At_st m19 m0 m1 m60:=fun hL_0 H0=>cnB [(19,m19),(0,m0),(1,m1),(60,m60)] hd (past_Past_At_con0 hL_0 H0)
abbrev past_Past_Ahead_st (m19 m0 m1 m60:Nat):Prop:=∀ {k:Nat} {A0:List (Nat→Nat)} {Q:List TQueue} {q0:TPastI} {a1:Int} {r:TViews×List TQueue} (hL_0:A0.length=Q.length) (H0:past_Past_Ahead.f k Q q0 a1=some r),SCon Tryz.prog 17 [SV.p m0 0,.a (.c (.v (.int .i64 a1)))] [(m19,hp m19 tq A0 Q),(m0,blk m0 [.v (.int .i64 q0.capacity),.nv m1] 58),(m1,ptT eTOp (payI A0) 62 m1 q0.root)] (.a (.agg [.nv m60])) [(m0,blk m0 [.v (.int .i64 q0.capacity),.nv m1] 58),(m1,ptT eTOp (payI A0) 62 m1 q0.root),(m60,pkV m60 A0 Q 79 4 r.2 (r.1.parts))] [m60]
theorem past_Past_Ahead_con0:past_Past_Ahead_st 19 0 1 60:=by
 intro k A0 Q q0 a1 r hL_0 H0
 rw [past_Past_Ahead.f] at H0
 exact M.s Tryz.func17 Tryz.ntmps17 R fun β W F=>by obtain ⟨A,hA_⟩ : ∃ B,B=A0:=⟨_,R⟩;exact xg 4 [100] R<|At.nilBlk (n:=100) (l':=[_]) 0 101 79 (eTPart A) 4 R R R R R<|xa 2 [] R<|M.b H0 fun x1 hx1 H0=>xg 3 [] R<|K.cC (cf 39 R) [] (fun β w S2 h=>SCon.rd0 (past_Past_until_con 19 0 1 102 R hL_0 hx1) S2 w h) g0 (fun _=>R) R R R<|xk 4 [] R<|by cases H0;exact ZR [(60,102)]
theorem past_Past_Ahead_con (m19 m0 m1 m60:Nat) (hd:ndB [m19,m0,m1,m60]=true):past_Past_Ahead_st m19 m0 m1 m60:=fun hL_0 H0=>cnB [(19,m19),(0,m0),(1,m1),(60,m60)] hd (past_Past_Ahead_con0 hL_0 H0)
set_option maxHeartbeats 4000000 in
theorem Lw14_awake_con {k:Nat} {r:Bool} (H0:Lw14_awake.f k=some r):SCon Tryz.prog 8 [] [] (.a (.c (.v (.bool r)))) [] []:=by
 rw [Lw14_awake.f] at H0
 exact M.s Tryz.func8 Tryz.ntmps8 R fun β W F=>xg 6 [] R<|M.b H0 fun x1 hx1 H0=>xg 1 [] R<|k0 (past_New_con 100 101 R hx1) R<|xk 3 [] R<|M.b H0 fun x2 H1 H0=>M.j (σ:={ v:Int×PT TOp TQueue // x2=Sum.inr v }) (fun q=>[(1,.a (.c (.p 102 0)))]) (fun q=>[(103,ptT eTOp payQ 62 103 q.1.2),(102,blk 102 [.v (.int .i64 q.1.1),.nv 103] 58)]) (xg 1 [] R<|M.b H1 fun x3 hx3 H1=>M.i (t:=(x3.1 != 0)) (fun h1=>have H1:=bif_t H1 h1;xg 2 [] R<|K.eqnil (V:=false) g0 R R (pn_eql_some Tryz.underlying23) R<|xk 1 [] R<|K.move (.inl R) (g1 R R R) R R<|K.build Y [(0,_)] [_,_] [(_,_)] (g1 R R R) (AllE.spec ⟨R,trivial⟩) R R t28 R R<|K.cC (cf 10 R) [] (fun β w S2 h=>SCon.rd0 (past_Past_Insert_con 100 101 104 R hx3) S2 w h) (g1 R R R) (fun _=>R) R R R<|K.bin (V:=.bool (x3.1 != 0)) (g1 R R R) R R (fun _=>R) R<|K.pickF g0 R (R) R R<|xk 1 [] R<|kk h1 R<|kk h1 R<|kk h1 R<|kk h1 R<|K.pickT g0 R (h1) R R<|xk 1 [] R<|kk R R<|kk R R<|kk R R<|K.pickT g0 R (R) R R<|xk 2 [] R<|G.cond R (fun h2=>xg 7 [] R<|by cases H1;exact have H0:=sum_l H0;by cases H0;exact ZR []) (fun h2=>by cases h2)) (fun h1=>have H1:=bif_f H1 h1;M.b H1 fun x4 hx4 H1=>M.i (t:=(x4.1 != 0)) (fun h3=>have H1:=bif_t H1 h3;xg 2 [] R<|K.eqnil (V:=false) g0 R R (pn_eql_some Tryz.underlying23) R<|xk 1 [] R<|K.move (.inl R) (g1 R R R) R R<|K.build Y [(0,_)] [_,_] [(_,_)] (g1 R R R) (AllE.spec ⟨R,trivial⟩) R R t28 R R<|K.cC (cf 10 R) [] (fun β w S2 h=>SCon.rd0 (past_Past_Insert_con 100 101 104 R hx3) S2 w h) (g1 R R R) (fun _=>R) R R R<|K.bin (V:=.bool (x3.1 != 0)) (g1 R R R) R R (fun _=>R) R<|K.pickF g0 R (R) R R<|xk 1 [] R<|K.move (.inl R) (g1 R R h1) R R<|K.build Y [(0,_)] [_,_] [(_,_)] (g1 R R h1) (AllE.spec ⟨R,trivial⟩) R R t28 R R<|K.cC (cf 10 R) [] (fun β w S2 h=>SCon.rd0 (past_Past_Insert_con 100 104 105 R hx4) S2 w h) (g1 R R h1) (fun _=>R) R R R<|K.bin (V:=.bool (x4.1 != 0)) (g1 R R h1) R R (fun _=>R) R<|K.pickF g0 R (h1) R R<|xk 1 [] R<|kk h3 R<|kk h3 R<|kk h3 R<|K.pickT g0 R (h3) R R<|xk 2 [] R<|G.cond R (fun h4=>xg 7 [] R<|by cases H1;exact have H0:=sum_l H0;by cases H0;exact ZR []) (fun h4=>by cases h4)) (fun h3=>have H1:=bif_f H1 h3;M.b H1 fun x5 hx5 H1=>xg 2 [] R<|K.eqnil (V:=false) g0 R R (pn_eql_some Tryz.underlying23) R<|xk 1 [] R<|K.move (.inl R) (g1 R R R) R R<|K.build Y [(0,_)] [_,_] [(_,_)] (g1 R R R) (AllE.spec ⟨R,trivial⟩) R R t28 R R<|K.cC (cf 10 R) [] (fun β w S2 h=>SCon.rd0 (past_Past_Insert_con 100 101 104 R hx3) S2 w h) (g1 R R R) (fun _=>R) R R R<|K.bin (V:=.bool (x3.1 != 0)) (g1 R R R) R R (fun _=>R) R<|K.pickF g0 R (R) R R<|xk 1 [] R<|K.move (.inl R) (g1 R R h1) R R<|K.build Y [(0,_)] [_,_] [(_,_)] (g1 R R h1) (AllE.spec ⟨R,trivial⟩) R R t28 R R<|K.cC (cf 10 R) [] (fun β w S2 h=>SCon.rd0 (past_Past_Insert_con 100 104 105 R hx4) S2 w h) (g1 R R h1) (fun _=>R) R R R<|K.bin (V:=.bool (x4.1 != 0)) (g1 R R h1) R R (fun _=>R) R<|K.pickF g0 R (h1) R R<|xk 1 [] R<|K.move (.inl R) (g1 R R h3) R R<|K.cC (cf 27 R) [] (fun β w S2 h=>SCon.rd0 (past_Past_Delete_con 100 105 106 R hx5) S2 w h) (g1 R R h3) (fun _=>R) R R R<|K.bin (V:=.bool (x5.1 != 0)) (g1 R R h3) R R (fun _=>R) R<|K.pickF g0 R (h3) R R<|xk 2 [] R<|M.c R H1 (fun h5 H1=>xg 7 [] R<|by cases H1;exact have H0:=sum_l H0;by cases H0;exact ZR []) (fun h5 H1=>xg 1 [] R<|M.jd ⟨(x5.2.capacity,x5.2.root),oi H1⟩ [(102,100),(103,106)]))))<|by rintro ⟨w2,rfl⟩;exact have H0:=sum_r H0;xg 1 [] R<|G.ent [(103,ptT eTOp payQ 62 103 w2.2)] [(107,pkT 103 62 w2.2 79 4 (pQ w2.2) ([]:List (Nat×List TPart)))] [] (pk_open 107) ⟨R,trivial⟩ R R R R<|M.b H0 fun x6 hx6 H0=>M.b H0 fun x7 hx7 H0=>xg 2 [] R<|k0 (SCon.view (rows:=([]:List (Nat×List TPart))) (Q:=(pQ w2.2)) 107 R (fun A hL_0=>past_Past_At_con 19 102 103 108 R hL_0 hx6) R) R<|kR (SCon.views (k:=108) (R1:=[]) (R2:=[]) (parts:=x6.1.parts) (args:=fun v=>[.a (.agg [.v v])]) 107 19 (fun A S W0 v hL_9 hL_v=>fuse_Views_Min_con 19 hL_9 hL_v hx7) R eTPart_len (fun β=>R) R) R<|xk 9 [109] R<|M.i (t:=x7.2) (fun h6=>have H0:=bif_t H0 h6;M.i (t:=(x7.1.key == 5)) (fun h7=>have H0:=bif_t H0 h7;M.e H0 fun h8 H0=>M.b H0 fun x8 hx8 H0=>M.b H0 fun x9 hx9 H0=>M.i (t:=(x9 == 2)) (fun h9=>have H0:=bif_t H0 h9;M.e H0 fun h10 H0=>M.e H0 fun h11 H0=>M.b H0 fun x10 hx10 H0=>M.b H0 fun x11 hx11 H0=>xg 3 [] R<|K.fieldAddr Y (g1 R R h6) R t28 R R<|K.load1 Y (g1 R R h6) R R t3 R R<|K.bin (V:=.bool (x7.1.key == 5)) (g1 R R h6) R R (fun _=>R) R<|K.pickT g0 R (h6) R R<|xk 1 [] R<|K.move (.inl R) (g1 R R h7) R R<|K.c0 (cf 18 R) (SCon.view (rows:=[(108,x6.1.parts)]) (Q:=x6.2) 107 (by simp only [List.all_cons,List.all_nil,h8,Bool.and_self]) (fun A hL_0=>past_Past_At_con 19 102 103 110 R hL_0 hx8) R) (g1 R R h7) R R R R<|K.cR (cf 20 R) (SCon.views (k:=110) (R1:=[(108,x6.1.parts)]) (R2:=[]) (parts:=x8.1.parts) (args:=fun v=>[.a (.agg [.v v])]) 107 19 (fun A S W0 v hL_9 hL_v=>fuse_Views_Len_con 19 hL_9 hL_v hx9) R eTPart_len (fun β=>R) R) (g1 R R h7) R R R R<|K.bin (V:=.bool (x9 == 2)) (g1 R R h7) R R (fun _=>R) R<|K.pickT g0 R (h7) R R<|xk 1 [] R<|K.move (.inl R) (g1 R R h9) R R<|K.c0 (cf 17 R) (SCon.view (rows:=[(108,x6.1.parts),(110,x8.1.parts)]) (Q:=x8.2) 107 (by simp only [List.all_cons,List.all_nil,h10,h11,Bool.and_self]) (fun A hL_0=>past_Past_Ahead_con 19 102 103 111 R hL_0 hx10) R) (g1 R R h9) R R R R<|K.cR (cf 20 R) (SCon.views (k:=111) (R1:=[(108,x6.1.parts),(110,x8.1.parts)]) (R2:=[]) (parts:=x10.1.parts) (args:=fun v=>[.a (.agg [.v v])]) 107 19 (fun A S W0 v hL_9 hL_v=>fuse_Views_Len_con 19 hL_9 hL_v hx11) R eTPart_len (fun β=>R) R) (g1 R R h9) R R R R<|K.bin (V:=.bool (x11 == 1)) (g1 R R h9) R R (fun _=>R) R<|K.pickT g0 R (h9) R R<|xk 4 [] R<|At.ent [(107,pkT 103 62 w2.2 79 4 x10.2 [(108,x6.1.parts),(110,x8.1.parts),(111,x10.1.parts)])] [(103,ptT eTOp payQ 62 103 w2.2)] [] (pk_close 107) ⟨R,trivial⟩ R R R R<|by cases H0;exact ZR []) (fun h9=>have H0:=bif_f H0 h9;xg 3 [] R<|K.fieldAddr Y (g1 R R h6) R t28 R R<|K.load1 Y (g1 R R h6) R R t3 R R<|K.bin (V:=.bool (x7.1.key == 5)) (g1 R R h6) R R (fun _=>R) R<|K.pickT g0 R (h6) R R<|xk 1 [] R<|K.move (.inl R) (g1 R R h7) R R<|K.c0 (cf 18 R) (SCon.view (rows:=[(108,x6.1.parts)]) (Q:=x6.2) 107 (by simp only [List.all_cons,List.all_nil,h8,Bool.and_self]) (fun A hL_0=>past_Past_At_con 19 102 103 110 R hL_0 hx8) R) (g1 R R h7) R R R R<|K.cR (cf 20 R) (SCon.views (k:=110) (R1:=[(108,x6.1.parts)]) (R2:=[]) (parts:=x8.1.parts) (args:=fun v=>[.a (.agg [.v v])]) 107 19 (fun A S W0 v hL_9 hL_v=>fuse_Views_Len_con 19 hL_9 hL_v hx9) R eTPart_len (fun β=>R) R) (g1 R R h7) R R R R<|K.bin (V:=.bool (x9 == 2)) (g1 R R h7) R R (fun _=>R) R<|K.pickT g0 R (h7) R R<|xk 1 [] R<|kk h9 R<|kk h9 R<|kk h9 R<|kk h9 R<|K.pickF g0 R (h9) R R<|xk 4 [] R<|At.ent [(107,pkT 103 62 w2.2 79 4 x8.2 [(108,x6.1.parts),(110,x8.1.parts)])] [(103,ptT eTOp payQ 62 103 w2.2)] [] (pk_close 107) ⟨R,trivial⟩ R R R R<|by cases H0;exact ZR [])) (fun h7=>have H0:=bif_f H0 h7;xg 3 [] R<|K.fieldAddr Y (g1 R R h6) R t28 R R<|K.load1 Y (g1 R R h6) R R t3 R R<|K.bin (V:=.bool (x7.1.key == 5)) (g1 R R h6) R R (fun _=>R) R<|K.pickT g0 R (h6) R R<|xk 1 [] R<|kk h7 R<|kk h7 R<|kk h7 R<|kk h7 R<|K.pickF g0 R (h7) R R<|xk 1 [] R<|kk R R<|kk R R<|kk R R<|kk R R<|K.pickF g0 R (R) R R<|xk 4 [] R<|At.ent [(107,pkT 103 62 w2.2 79 4 x6.2 [(108,x6.1.parts)])] [(103,ptT eTOp payQ 62 103 w2.2)] [] (pk_close 107) ⟨R,trivial⟩ R R R R<|by cases H0;exact ZR [])) (fun h6=>have H0:=bif_f H0 h6;xg 3 [] R<|kk h6 R<|kk h6 R<|kk h6 R<|K.pickF g0 R (h6) R R<|xk 1 [] R<|kk R R<|kk R R<|kk R R<|kk R R<|K.pickF g0 R (R) R R<|xk 1 [] R<|kk R R<|kk R R<|kk R R<|kk R R<|K.pickF g0 R (R) R R<|xk 4 [] R<|At.ent [(107,pkT 103 62 w2.2 79 4 x6.2 [(108,x6.1.parts)])] [(103,ptT eTOp payQ 62 103 w2.2)] [] (pk_close 107) ⟨R,trivial⟩ R R R R<|by cases H0;exact ZR [])
theorem R12_At_con {k:Nat} {S:Foot} {W0:World} {s0:Value} {l0:List TOp} {a1:Int} {r:Int} (hL0:LArg S W0 s0 eTOp 4 l0) (H0:R12_At.f k l0 a1=some r):SCon Tryz.prog 34 [SV.raw s0,.a (.c (.v (.int .i64 a1)))] [(0,rd S W0)] (.a (.c (.v (.int .i64 r)))) [(0,rd S W0)] []:=by
 rw [R12_At.f] at H0
 obtain ⟨b0,o0,hI0⟩:=hL0
 exact M.s Tryz.func34 Tryz.ntmps34 R fun β W F=>xg 5 [] R<|M.b H0 fun x1 H1 H0=>M.j (σ:={ v:Unit // x1=Sum.inr v }) (fun q=>[]) (fun q=>[(0,rd S W0)]) (xg 6 [] R<|M.l (R12_At.l0 k l0 a1) H1 (fun v1=>[(0,SV.raw s0),(1,.a (.c (.v (.int .i64 a1)))),(5,.a (.c (.v (.int .i64 v1))))]) (fun v1=>[(0,rd S W0)]) [] fun n0 v1 H1=>xg 5 [] R<|K.lenL _ (hI0.is 0) g0 R R Tryz.underlying34 R<|xk 3 [] R<|M.c R H1 (fun h1 H1=>xg 5 [] R<|M.b H1 fun x2 hx2 H1=>xg 3 [] R<|K.idxL _ _ (hI0.is 0) (atL_get hx2) (atL_nn hx2) g0 R R R Tryz.underlying34 el34.size_run R<|K.fieldL Y _ _ 0 0 (hI0.is 0) (atL_get hx2) g0 R R t45 R R R R<|K.load1L Y _ _ 0 (hI0.is 0) (atL_get hx2) g0 R R t3 R R<|xk 4 [] R<|M.c R H1 (fun h2 H1=>xg 12 [] R<|by cases H1;exact have H0:=sum_l H0;by cases H0;exact ZR []) (fun h2 H1=>xg 8 [] R<|M.ag H1 [])) (fun h1 H1=>xg 4 [] R<|M.jd ⟨(),oi H1⟩ []))<|by rintro ⟨w1,rfl⟩;exact have H0:=sum_r H0;xg 6 [] R<|by cases H0;exact ZR []
abbrev R12_Without_st (m30:Nat):Prop:=∀ {k:Nat} {S:Foot} {W0:World} {s0:Value} {l0:List TOp} {a1:Int} {r:List TOp} (hL0:LArg S W0 s0 eTOp 4 l0) (H0:R12_Without.f k l0 a1=some r),SCon Tryz.prog 35 [SV.raw s0,.a (.c (.v (.int .i64 a1)))] [(0,rd S W0)] (.a (.c (.nv m30))) [(0,rd S W0),(m30,lrow m30 45 eTOp 4 r)] [m30]
theorem R12_Without_con0:R12_Without_st 30:=by
 intro k S W0 s0 l0 a1 r hL0 H0
 rw [R12_Without.f] at H0
 obtain ⟨b0,o0,hI0⟩:=hL0
 exact M.s Tryz.func35 Tryz.ntmps35 R fun β W F=>xg 2 [] R<|K.nilRow 100 45 eTOp 4 (.inl R) g0 R R R<|xk 4 [] R<|K.nilRow 101 45 eTOp 4 (.inl R) g0 R R R<|xk 3 [] R<|M.e H0 fun h1 H0=>M.e H0 fun h3 H0=>xg 4 [] R<|K.partR 0 ((a1).toNat) hI0 g0 R .no (.at_ R h1.1 R) Tryz.underlying34 el34.size_run (Nat.zero_le _) (tn_len h1.2) R<|K.appendL 102 (rV 0 S W0 (partOf 0 ((a1).toNat) 4 s0) _ _ eTOp 4 ((l0.drop 0).take (((a1).toNat) - 0))) _ el34 ((hI0.part (Nat.zero_le _) (tn_len h1.2)).is 0) eTOp_one g0 R R R R R (ap_m h3) (ap_b h3 (by decide)) R R R R R R<|xk 4 [] R<|M.e H0 fun h4 H0=>M.e H0 fun h6 H0=>xg 5 [] R<|K.partR (((w64 (a1+1))).toNat) l0.length hI0 g0 R (.at_ R h4.1 R) .no Tryz.underlying34 el34.size_run (tn_len h4.2) (Nat.le_refl _) R<|K.appendL 103 (rV 0 S W0 (partOf (((w64 (a1+1))).toNat) l0.length 4 s0) _ _ eTOp 4 ((l0.drop (((w64 (a1+1))).toNat)).take (l0.length - (((w64 (a1+1))).toNat)))) _ el34 ((hI0.part (tn_len h4.2) (Nat.le_refl _)).is 0) eTOp_one g0 R R R R R (ap_m h6) (ap_b h6 (by decide)) R R R R R R<|xk 4 [] R<|by cases H0;exact ZR [(30,103)]
theorem R12_Without_con (m30:Nat) (hd:ndB [m30]=true):R12_Without_st m30:=fun hL0 H0=>cnB [(30,m30)] hd (R12_Without_con0 hL0 H0)
theorem R12_Has_con {k:Nat} {S:Foot} {W0:World} {s0:Value} {l0:List TOp} {a1:TItem} {r:Bool} (hL0:LArg S W0 s0 eTOp 4 l0) (H0:R12_Has.f k l0 a1=some r):SCon Tryz.prog 36 [SV.raw s0,.a (.agg ((eTItem a1).map .v))] [(0,rd S W0)] (.a (.c (.v (.bool r)))) [(0,rd S W0)] []:=by
 rw [R12_Has.f] at H0
 obtain ⟨b0,o0,hI0⟩:=hL0
 exact M.s Tryz.func36 Tryz.ntmps36 R fun β W F=>xg 6 [100] R<|M.b H0 fun x1 H1 H0=>M.j (σ:={ v:Unit // x1=Sum.inr v }) (fun q=>[]) (fun q=>[(0,rd S W0)]) (xg 6 [] R<|M.l (R12_Has.l0 k l0 a1) H1 (fun v1=>[(0,SV.raw s0),(3,.a (.c (.p 103 0))),(5,.a (.c (.v (.int .i64 v1))))]) (fun v1=>[(0,rd S W0),(103,blk 103 [.v (.int .i64 a1.key),.v (.int .i64 a1.id)] 28)]) [(103,100)] fun n0 v1 H1=>xg 5 [] R<|K.lenL _ (hI0.is 0) g0 R R Tryz.underlying34 R<|xk 3 [] R<|M.c R H1 (fun h1 H1=>xg 5 [] R<|M.b H1 fun x2 hx2 H1=>M.i (t:=x2.insert) (fun h2=>have H1:=bif_t H1 h2;xg 3 [] R<|K.idxL _ _ (hI0.is 0) (atL_get hx2) (atL_nn hx2) g0 R R R Tryz.underlying34 el34.size_run R<|K.fieldL Y _ _ 0 1 (hI0.is 0) (atL_get hx2) g0 R R t45 R R R R<|K.load1L Y _ _ 1 (hI0.is 0) (atL_get hx2) g0 R R t4 R R<|xd 1 [] R<|K.move (.inl R) (g1 R R h2) R R<|K.move (.inl R) (g1 R R h2) R R<|K.idxL _ _ (hI0.is 0) (atL_get hx2) (atL_nn hx2) (g1 R R h2) R R R Tryz.underlying34 el34.size_run R<|K.fieldL Y _ _ 0 2 (hI0.is 0) (atL_get hx2) (g1 R R h2) R R t45 R R R R<|K.loadSL Y _ _ 2 [_,_] [_,_] (hI0.is 0) (atL_get hx2) (g1 R R h2) R R t28 R R R R R<|K.loadS Y _ (g1 R R h2) R R t28 R R R<|K.eqS [_,_] [_,_] (g1 R R h2) R R cmp28 R (.inl R) ((x2.item.key == a1.key)&&((x2.item.id == a1.id)&&true)) R R<|K.pickT g0 R (h2) R R<|M.n<|xa 1 [] R<|M.c R H1 (fun h3 H1=>xg 11 [] R<|by cases H1;exact have H0:=sum_l H0;by cases H0;exact ZR []) (fun h3 H1=>xg 8 [] R<|M.ag H1 [])) (fun h2=>have H1:=bif_f H1 h2;xg 3 [] R<|K.idxL _ _ (hI0.is 0) (atL_get hx2) (atL_nn hx2) g0 R R R Tryz.underlying34 el34.size_run R<|K.fieldL Y _ _ 0 1 (hI0.is 0) (atL_get hx2) g0 R R t45 R R R R<|K.load1L Y _ _ 1 (hI0.is 0) (atL_get hx2) g0 R R t4 R R<|xd 1 [] R<|kk h2 R<|kk h2 R<|kk h2 R<|kk h2 R<|kk h2 R<|kk h2 R<|kk h2 R<|K.pickF g0 R (h2) R R<|M.n<|xa 1 [] R<|G.cond R (fun h4=>by cases h4) (fun h4=>xg 8 [] R<|M.ag H1 []))) (fun h1 H1=>xg 4 [] R<|M.jd ⟨(),oi H1⟩ []))<|by rintro ⟨w1,rfl⟩;exact have H0:=sum_r H0;xg 6 [] R<|by cases H0;exact ZR []
abbrev R12_Add_st (m30:Nat):Prop:=∀ {k:Nat} {S:Foot} {W0:World} {s0:Value} {l0:List TOp} {a1:TOp} {r:List TOp} (hL0:LArg S W0 s0 eTOp 4 l0) (H0:R12_Add.f k l0 a1=some r),SCon Tryz.prog 37 [SV.raw s0,.a (.agg ((eTOp a1).map .v))] [(0,rd S W0)] (.a (.c (.nv m30))) [(0,rd S W0),(m30,lrow m30 45 eTOp 4 r)] [m30]
theorem R12_Add_con0:R12_Add_st 30:=by
 intro k S W0 s0 l0 a1 r hL0 H0
 rw [R12_Add.f] at H0
 obtain ⟨b0,o0,hI0⟩:=hL0
 exact M.s Tryz.func37 Tryz.ntmps37 R fun β W F=>xg 3 [100] R<|K.nilRow 101 45 eTOp 4 (.inl R) g0 R R R<|xk 7 [] R<|M.b H0 fun x1 H1 H0=>M.x ([(0,SV.raw s0),(3,.a (.c (.p 102 0))),(5,.a (.c (.v (.int .i64 x1))))]) ([(0,rd S W0),(102,blk 102 [.v (.int .i64 a1.time),.v (.bool a1.insert),.v (.int .i64 a1.item.key),.v (.int .i64 a1.item.id)] 45)]) (xg 1 [] R<|M.l (R12_Add.l0 k l0 a1) H1 (fun v1=>[(0,SV.raw s0),(3,.a (.c (.p 105 0))),(5,.a (.c (.v (.int .i64 v1))))]) (fun v1=>[(0,rd S W0),(105,blk 105 [.v (.int .i64 a1.time),.v (.bool a1.insert),.v (.int .i64 a1.item.key),.v (.int .i64 a1.item.id)] 45)]) [(105,100)] fun n0 v1 H1=>xg 2 [] R<|M.i (t:=(decide (v1<(l0.length:Int)))) (fun h1=>have H1:=bif_t H1 h1;M.b H1 fun x2 hx2 H1=>xg 3 [] R<|K.lenL _ (hI0.is 0) g0 R R Tryz.underlying34 R<|xd 2 [] R<|K.move (.inl R) (g1 R R h1) R R<|K.move (.inl R) (g1 R R h1) R R<|K.idxL _ _ (hI0.is 0) (atL_get hx2) (atL_nn hx2) (g1 R R h1) R R R Tryz.underlying34 el34.size_run R<|K.fieldL Y _ _ 0 0 (hI0.is 0) (atL_get hx2) (g1 R R h1) R R t45 R R R R<|K.load1L Y _ _ 0 (hI0.is 0) (atL_get hx2) (g1 R R h1) R R t3 R R<|K.fieldAddr Y (g1 R R h1) R t45 R R<|K.load1 Y (g1 R R h1) R R t3 R R<|K.bin (V:=.bool (decide (x2.time<a1.time))) (g1 R R h1) R R (fun _=>R) R<|K.pickT g0 R (h1) R R<|M.n<|xa 1 [] R<|M.c R H1 (fun h2 H1=>xg 9 [] R<|M.ag H1 []) (fun h2 H1=>xg 4 [] R<|by cases H1;exact M.xd [(102,105)])) (fun h1=>have H1:=bif_f H1 h1;xg 3 [] R<|K.lenL _ (hI0.is 0) g0 R R Tryz.underlying34 R<|xd 2 [] R<|kk h1 R<|kk h1 R<|kk h1 R<|kk h1 R<|kk h1 R<|kk h1 R<|kk h1 R<|kk h1 R<|K.pickF g0 R (h1) R R<|M.n<|xa 1 [] R<|G.cond R (fun h3=>by cases h3) (fun h3=>xg 4 [] R<|by cases H1;exact M.xd [(102,105)])))<|xg 2 [] R<|K.nilRow 106 45 eTOp 4 (.inl R) g0 R R R<|xk 3 [] R<|M.e H0 fun h4 H0=>M.e H0 fun h6 H0=>xg 4 [] R<|K.partR 0 ((x1).toNat) hI0 g0 R .no (.at_ R h4.1 R) Tryz.underlying34 el34.size_run (Nat.zero_le _) (tn_len h4.2) R<|K.appendL 107 (rV 0 S W0 (partOf 0 ((x1).toNat) 4 s0) _ _ eTOp 4 ((l0.drop 0).take (((x1).toNat) - 0))) _ el34 ((hI0.part (Nat.zero_le _) (tn_len h4.2)).is 0) eTOp_one g0 R R R R R (ap_m h6) (ap_b h6 (by decide)) R R R R R R<|xk 4 [] R<|M.e H0 fun h7 H0=>xg 3 [] R<|K.buildL Y 108 ([a1]:List TOp) [(0,_)] [((.tmp 29),_)] eTOp_len g0 (AllE.spec ⟨R,trivial⟩) R R Tryz.underlying34 t45 R R R R R R R R<|K.appendL 109 (lrowV 108 45 eTOp 4 ([a1]:List TOp)) _ el34 (lrowV_is eTOp_len (by decide)) eTOp_one g0 R R R R R (ap_m h7) (ap_b h7 (by decide)) R R R R R R<|xk 4 [] R<|M.e H0 fun h8 H0=>M.e H0 fun h10 H0=>xg 4 [] R<|K.partR ((x1).toNat) l0.length hI0 g0 R (.at_ R h8.1 R) .no Tryz.underlying34 el34.size_run (tn_len h8.2) (Nat.le_refl _) R<|K.appendL 110 (rV 0 S W0 (partOf ((x1).toNat) l0.length 4 s0) _ _ eTOp 4 ((l0.drop ((x1).toNat)).take (l0.length - ((x1).toNat)))) _ el34 ((hI0.part (tn_len h8.2) (Nat.le_refl _)).is 0) eTOp_one g0 R R R R R (ap_m h10) (ap_b h10 (by decide)) R R R R R R<|xk 4 [] R<|by cases H0;exact ZR [(30,110)]
theorem R12_Add_con (m30:Nat) (hd:ndB [m30]=true):R12_Add_st m30:=fun hL0 H0=>cnB [(30,m30)] hd (R12_Add_con0 hL0 H0)
abbrev Tree_allS_o2_st (k n m0 m1 m2 m30:Nat):Prop:=∀ {p1:Pool (TNode TSlot TSize)} {a1:TRef} {l2:List TSlot} {ri0 rg0:Int} {r:List TSlot} (H0:Tree_all.r opsS k n p1 a1 l2=some r),SCon Tryz.prog 103 [SV.p m0 0,.a (.agg ((eTRef a1).map .v)),.a (.c (.nv m2))] [(m0,blk m0 [.p m1 0,.i ri0,.i rg0] 121),(m1,plS m1 p1),(m2,lrow m2 82 eTSlot 4 l2)] (.a (.c (.nv m30))) [(m0,blk m0 [.p m1 0,.i ri0,.i rg0] 121),(m1,plS m1 p1),(m30,lrow m30 82 eTSlot 4 r)] [m30]
theorem Tree_allS_o2_con0 {k:Nat} : ∀ {n:Nat},Tree_allS_o2_st k n 0 1 2 30:=by
 intro n
 induction n with
 | zero => intro p1 a1 l2 ri0 rg0 r H0; exact absurd H0 (by simp [Tree_all.r])
 | succ n ih =>
  intro p1 a1 l2 ri0 rg0 r H0
  rw [Tree_all.r] at H0
  exact M.s Tryz.func103 Tryz.ntmps103 R fun β W F=>xg 3 [100] R<|K.nilRow 101 82 eTSlot 4 (.inl R) g0 R R R<|xk 10 [] R<|M.c R H0 (fun h1 H0=>xg 8 [] R<|by cases H0;exact ZR [(30,2)]) (fun h1 H0=>xg 3 [] R<|M.b H0 fun x1 hx1 H0=>xg 3 [] R<|kR (Tree_getS_con 0 1 hx1) R<|xk 5 [102] R<|M.b H0 fun x2 hx2 H0=>M.e H0 fun h2 H0=>M.b H0 fun x3 hx3 H0=>xg 8 [] R<|K.cC (cf 103 R) [] (fun β w S2 h=>SCon.rd0 (SCon.ren (ti':=[(0,_),(1,_),(2,_)]) (to':=[(0,_),(1,_),(103,_)]) (rn [(0,0),(1,1),(2,2),(30,103)]) (ih  hx2) ⟨(blk_ren R R),(pl_ren R),(lrow_ren R),trivial⟩ ⟨(blk_ren R R),(pl_ren R),(lrow_ren R),trivial⟩ (rn_nd (hd_ [0,1,2,103] R) R R) (rn_ks (hd_ [0,1,2,103] R) R R R)) S2 w h) g0 (fun _=>R) R R R<|xd 2 [] R<|K.buildL Y 104 ([x1.e]:List TSlot) [(0,_)] [((.tmp 24),_)] eTSlot_len g0 (AllE.spec ⟨R,trivial⟩) R R Tryz.underlying130 t82 R R R R R R R R<|K.appendL 105 (lrowV 104 82 eTSlot 4 ([x1.e]:List TSlot)) _ el130 (lrowV_is eTSlot_len (by decide)) eTSlot_one g0 R R R R R (ap_m h2) (ap_b h2 (by decide)) R R R R R R<|K.cC (cf 103 R) [] (fun β w S2 h=>SCon.rd0 (SCon.ren (ti':=[(0,_),(1,_),(105,_)]) (to':=[(0,_),(1,_),(106,_)]) (rn [(0,0),(1,1),(2,105),(30,106)]) (ih  hx3) ⟨(blk_ren R R),(pl_ren R),(lrow_ren R),trivial⟩ ⟨(blk_ren R R),(pl_ren R),(lrow_ren R),trivial⟩ (rn_nd (hd_ [0,1,105,106] R) R R) (rn_ks (hd_ [0,1,105,106] R) R R R)) S2 w h) g0 (fun _=>R) R R R<|xd 1 [] R<|M.n<|xa 2 [] R<|by cases H0;exact ZR [(30,106)])
theorem Tree_allS_o2_con {k n:Nat} (m0 m1 m2 m30:Nat) (hd:ndB [m0,m1,m2,m30]=true):Tree_allS_o2_st k n m0 m1 m2 m30:=fun H0=>cnB [(0,m0),(1,m1),(2,m2),(30,m30)] hd (Tree_allS_o2_con0 H0)
abbrev Tree_allS_n2_st (k n m0 m1 m30:Nat):Prop:=∀ {p1:Pool (TNode TSlot TSize)} {a1:TRef} {ri0 rg0:Int} {r:List TSlot} (H0:Tree_all.r opsS k n p1 a1 ([]:List TSlot)=some r),SCon Tryz.prog 103 [SV.p m0 0,.a (.agg ((eTRef a1).map .v)),SV.raw (.slice none 0 0)] [(m0,blk m0 [.p m1 0,.i ri0,.i rg0] 121),(m1,plS m1 p1)] (.a (.c (.nv m30))) [(m0,blk m0 [.p m1 0,.i ri0,.i rg0] 121),(m1,plS m1 p1),(m30,lrow m30 82 eTSlot 4 r)] [m30]
theorem Tree_allS_n2_con0 {k:Nat} : ∀ {n:Nat},Tree_allS_n2_st k n 0 1 30:=by
 intro n
 cases n with
 | zero => intro p1 a1 ri0 rg0 r H0; exact absurd H0 (by simp [Tree_all.r])
 | succ n =>
  intro p1 a1 ri0 rg0 r H0
  rw [Tree_all.r] at H0
  exact M.s Tryz.func103 Tryz.ntmps103 R fun β W F=>xg 3 [100] R<|K.nilRow 101 82 eTSlot 4 (.inl R) g0 R R R<|xk 10 [] R<|M.c R H0 (fun h1 H0=>xg 2 [] R<|K.nilRowS 102 82 eTSlot 4 (.inr R) g0 R R R R<|xk 5 [] R<|by cases H0;exact ZR [(30,102)]) (fun h1 H0=>xg 3 [] R<|M.b H0 fun x1 hx1 H0=>xg 3 [] R<|kR (Tree_getS_con 0 1 hx1) R<|xk 5 [103] R<|M.b H0 fun x2 hx2 H0=>M.e H0 fun h2 H0=>M.b H0 fun x3 hx3 H0=>xg 7 [] R<|K.nilRowS 104 82 eTSlot 4 (.inr R) g0 R R R R<|K.cC (cf 103 R) [] (fun β w S2 h=>SCon.rd0 (Tree_allS_o2_con 0 1 104 105 R hx2) S2 w h) g0 (fun _=>R) R R R<|xd 2 [] R<|K.buildL Y 106 ([x1.e]:List TSlot) [(0,_)] [((.tmp 24),_)] eTSlot_len g0 (AllE.spec ⟨R,trivial⟩) R R Tryz.underlying130 t82 R R R R R R R R<|K.appendL 107 (lrowV 106 82 eTSlot 4 ([x1.e]:List TSlot)) _ el130 (lrowV_is eTSlot_len (by decide)) eTSlot_one g0 R R R R R (ap_m h2) (ap_b h2 (by decide)) R R R R R R<|K.cC (cf 103 R) [] (fun β w S2 h=>SCon.rd0 (Tree_allS_o2_con 0 1 107 108 R hx3) S2 w h) g0 (fun _=>R) R R R<|xd 1 [] R<|M.n<|xa 2 [] R<|by cases H0;exact ZR [(30,108)])
theorem Tree_allS_n2_con {k n:Nat} (m0 m1 m30:Nat) (hd:ndB [m0,m1,m30]=true):Tree_allS_n2_st k n m0 m1 m30:=fun H0=>cnB [(0,m0),(1,m1),(30,m30)] hd (Tree_allS_n2_con0 H0)
abbrev Tree_AllS_st (m0 m1 m30:Nat):Prop:=∀ {k:Nat} {p1:Pool (TNode TSlot TSize)} {rt0:TRef} {r:List TSlot} (H0:Tree_All.f opsS k p1 rt0=some r),SCon Tryz.prog 74 [SV.p m0 0] [(m0,blk m0 [.p m1 0,.i rt0.index,.i rt0.gen] 121),(m1,plS m1 p1)] (.a (.c (.nv m30))) [(m0,blk m0 [.p m1 0,.i rt0.index,.i rt0.gen] 121),(m1,plS m1 p1),(m30,lrow m30 82 eTSlot 4 r)] [m30]
theorem Tree_AllS_con0:Tree_AllS_st 0 1 30:=by
 intro k p1 rt0 r H0
 rw [Tree_All.f] at H0
 exact M.s Tryz.func74 Tryz.ntmps74 R fun β W F=>xg 2 [] R<|K.nilRow 100 82 eTSlot 4 (.inl R) g0 R R R<|xk 3 [] R<|M.b H0 fun x1 hx1 H0=>xg 6 [] R<|k0 (Tree_allS_n2_con 0 1 101 R hx1) R<|xk 4 [] R<|by cases H0;exact ZR [(30,101)]
theorem Tree_AllS_con (m0 m1 m30:Nat) (hd:ndB [m0,m1,m30]=true):Tree_AllS_st m0 m1 m30:=fun H0=>cnB [(0,m0),(1,m1),(30,m30)] hd (Tree_AllS_con0 H0)
abbrev shelf_Items_st (m0 m1 m30:Nat):Prop:=∀ {k:Nat} {p1:Pool (TNode TSlot TSize)} {rt0:TRef} {r:List TItem} (H0:shelf_Items.f k p1 rt0=some r),SCon Tryz.prog 49 [SV.p m0 0] [(m0,blk m0 [.p m1 0,.i rt0.index,.i rt0.gen] 121),(m1,plS m1 p1)] (.a (.c (.nv m30))) [(m0,blk m0 [.p m1 0,.i rt0.index,.i rt0.gen] 121),(m1,plS m1 p1),(m30,lrow m30 28 eTItem 2 r)] [m30]
theorem shelf_Items_con0:shelf_Items_st 0 1 30:=by
 intro k p1 rt0 r H0
 rw [shelf_Items.f] at H0
 exact M.s Tryz.func49 Tryz.ntmps49 R fun β W F=>xg 2 [] R<|K.nilRow 100 28 eTItem 2 (.inl R) g0 R R R<|xk 6 [] R<|K.eqnil (V:=false) g0 R R (pn_eql_some Tryz.underlying75) R<|xk 2 [] R<|G.cond R (fun h1=>by cases h1) (fun h1=>xg 4 [] R<|K.nilRow 101 28 eTItem 2 (.inl R) g0 R R R<|xk 2 [] R<|M.b H0 fun x1 H1 H0=>M.x ([(3,.a (.c (.nv 102)))]) ([(102,lrow 102 28 eTItem 2 x1),(1,plS 1 p1),(0,blk 0 [.p 1 0,.v (.int .i64 rt0.index),.v (.int .i64 rt0.gen)] 121)]) (xg 1 [] R<|M.b H1 fun x2 hx2 H1=>xg 2 [] R<|k0 (Tree_AllS_con 0 1 103 R hx2) R<|K.lenL _ (lrowV_is eTSlot_len (by decide)) g0 R R Tryz.underlying130 R<|xk 4 [] R<|M.l (shelf_Items.l0 k x2) H1 (fun (v1,v2)=>[(3,.a (.c (.nv 108))),(9,.a (.c (.nv 109))),(10,.a (.c (.v (.int .i64 (x2.length:Int))))),(11,.a (.c (.v (.int .i64 v2))))]) (fun (v1,v2)=>[(108,lrow 108 28 eTItem 2 v1),(109,lrow 109 82 eTSlot 4 x2),(1,plS 1 p1),(0,blk 0 [.p 1 0,.v (.int .i64 rt0.index),.v (.int .i64 rt0.gen)] 121)]) [(108,101),(109,103)] fun n0 (v1,v2) H1=>xg 6 [] R<|M.c R H1 (fun h2 H1=>xg 5 [] R<|M.b H1 fun x3 hx3 H1=>xg 1 [] R<|K.idxL _ _ (lrowV_is eTSlot_len (by decide)) (atL_get hx3) (atL_nn hx3) g0 R R R Tryz.underlying130 el130.size_run R<|K.loadSL Y _ _ 0 [_,_,_,_] [_,_,_,_] (lrowV_is eTSlot_len (by decide)) (atL_get hx3) g0 R R t82 R R R R R<|xk 4 [110] R<|M.e H1 fun h3 H1=>xg 4 [] R<|K.buildL Y 111 ([x3.item]:List TItem) [(0,_)] [((.tmp 17),_)] eTItem_len g0 (AllE.spec ⟨R,trivial⟩) R R Tryz.underlying54 t28 R R R R R R R R<|K.appendL 112 (lrowV 111 28 eTItem 2 ([x3.item]:List TItem)) _ el54 (lrowV_is eTItem_len (by decide)) eTItem_one g0 R R R R R (ap_m h3) (ap_b h3 (by decide)) R R R R R R<|xk 8 [] R<|M.ag H1 [(108,112)]) (fun h2 H1=>xg 4 [] R<|by cases H1;exact M.xd [(102,108)]))<|xg 7 [] R<|by cases H0;exact ZR [(30,102)])
theorem shelf_Items_con (m0 m1 m30:Nat) (hd:ndB [m0,m1,m30]=true):shelf_Items_st m0 m1 m30:=fun H0=>cnB [(0,m0),(1,m1),(30,m30)] hd (shelf_Items_con0 H0)
abbrev fuse_Views_Items_st (m1 m30:Nat):Prop:=∀ {k:Nat} {S:Foot} {W0:World} {A:List (Nat→Nat)} {s0_0:Value} {Q:List TQueue} {a0:TViews} {r:List TItem} (hL_9:A.length=Q.length) (hL0_0:LArg S W0 s0_0 (eTPart A) 4 a0.parts) (H0:fuse_Views_Items.f k Q a0=some r),SCon Tryz.prog 26 [.a (.agg [.v s0_0])] [(0,rd S W0),(m1,hp m1 tq A Q)] (.a (.c (.nv m30))) [(0,rd S W0),(m1,hp m1 tq A Q),(m30,lrow m30 28 eTItem 2 r)] [m30]
theorem fuse_Views_Items_con0:fuse_Views_Items_st 1 30:=by
 intro k S W0 A s0_0 Q a0 r hL_9 hL0_0 H0
 rw [fuse_Views_Items.f] at H0
 obtain ⟨b0_0,o0_0,hI0_0⟩:=hL0_0
 obtain ⟨ao0_0,cap0_0,hE0_0,_⟩:=hI0_0.sl
 subst hE0_0
 exact M.s Tryz.func26 Tryz.ntmps26 R fun β W F=>xg 3 [100] R<|K.nilRow 101 28 eTItem 2 (.inl R) g0 R R R<|xk 4 [] R<|K.nilRow 102 28 eTItem 2 (.inl R) g0 R R R<|xk 2 [] R<|M.b H0 fun x1 H1 H0=>M.x ([(3,.a (.c (.nv 103)))]) ([(0,rd S W0),(103,lrow 103 28 eTItem 2 x1),(1,hp 1 tq A Q)]) (xg 4 [] R<|K.lenL _ (hI0_0.is 0) g0 R R Tryz.underlying40 R<|xk 4 [] R<|M.l (fuse_Views_Items.l0 k Q a0) H1 (fun (v1,v2)=>[(3,.a (.c (.nv 106))),(7,SV.raw (Value.slice ao0_0 a0.parts.length cap0_0)),(8,.a (.c (.v (.int .i64 (a0.parts.length:Int))))),(9,.a (.c (.v (.int .i64 v2))))]) (fun (v1,v2)=>[(0,rd S W0),(106,lrow 106 28 eTItem 2 v1),(1,hp 1 tq A Q)]) [(106,102)] fun n0 (v1,v2) H1=>xg 6 [] R<|M.c R H1 (fun h1 H1=>xg 5 [] R<|M.b H1 fun x2 hx2 H1=>xg 1 [] R<|K.idxL _ _ (hI0_0.is 0) (atL_get hx2) (atL_nn hx2) g0 R R R Tryz.underlying40 el40.size_run R<|K.loadSL Y _ _ 0 [_,_,_,_] [_,_,_,_] (hI0_0.is 0) (atL_get hx2) g0 R R t79 R R R R R<|xk 4 [107] R<|M.b H1 fun x3 hx3 H1=>M.b H1 fun x4 hx4 H1=>M.b H1 fun x5 hx5 H1=>M.e H1 fun h2 H1=>M.e H1 fun h4 H1=>xg 4 [] R<|k0 (onTree 1 hL_9 hx3 (shelf_Items_con 4 5 108 R hx4) (shelf_Items_con 6 7 108 R hx4) R R R R) R<|xd 1 [] R<|kR (fuse_part_ahead_con 1 hL_9 hx5) R<|K.partL ((x5).toNat) x4.length g0 R (.at_ R h2.1 R) .no R Tryz.underlying54 el54.size_run (tn_len h2.2) (Nat.le_refl _) R<|K.appendL 109 (lsubV 108 28 eTItem 2 x4 ((x5).toNat) x4.length) _ el54 (lsubV_is eTItem_len (by decide) (tn_len h2.2) (Nat.le_refl _)) eTItem_one g0 R R R R R (ap_m h4) (ap_b h4 (by decide)) R R R R R R<|xd 1 [] R<|M.n<|xa 6 [] R<|M.ag H1 [(106,109)]) (fun h1 H1=>xg 4 [] R<|by cases H1;exact M.xd [(103,106)]))<|xg 1 [] R<|M.b H0 fun x6 hx6 H0=>xg 2 [] R<|K.cV (cf 51 R) [103] (fun β w S2 h=>item_Sorted_con (la 0 R eTItem_len R h) hx6 110 R) g0 (fun _=>R) R R R<|xk 4 [] R<|by cases H0;exact ZR [(30,110)]
theorem fuse_Views_Items_con (m1 m30:Nat) (hd:ndB [m1,m30]=true):fuse_Views_Items_st m1 m30:=fun hL_9 hL0_0 H0=>cnB [(1,m1),(30,m30)] hd (fuse_Views_Items_con0 hL_9 hL0_0 H0)
theorem R02_Same_con {k:Nat} {S:Foot} {W0:World} {s0:Value} {s1:Value} {l0:List TItem} {l1:List TItem} {r:Bool} (hL0:LArg S W0 s0 eTItem 2 l0) (hL1:LArg S W0 s1 eTItem 2 l1) (H0:R02_Same.f k l0 l1=some r):SCon Tryz.prog 48 [SV.raw s0,SV.raw s1] [(0,rd S W0)] (.a (.c (.v (.bool r)))) [(0,rd S W0)] []:=by
 rw [R02_Same.f] at H0
 obtain ⟨b0,o0,hI0⟩:=hL0
 obtain ⟨b1,o1,hI1⟩:=hL1
 exact M.s Tryz.func48 Tryz.ntmps48 R fun β W F=>xg 9 [] R<|K.lenL _ (hI0.is 0) g0 R R Tryz.underlying54 R<|xk 1 [] R<|K.lenL _ (hI1.is 0) g0 R R Tryz.underlying54 R<|xk 3 [] R<|M.c R H0 (fun h1 H0=>xg 7 [] R<|by cases H0;exact ZR []) (fun h1 H0=>xg 2 [] R<|M.b H0 fun x1 H1 H0=>M.j (σ:={ v:Unit // x1=Sum.inr v }) (fun q=>[]) (fun q=>[(0,rd S W0)]) (xg 6 [] R<|M.l (R02_Same.l0 k l0 l1) H1 (fun v1=>[(0,SV.raw s0),(1,SV.raw s1),(5,.a (.c (.v (.int .i64 v1))))]) (fun v1=>[(0,rd S W0)]) [] fun n0 v1 H1=>xg 5 [] R<|K.lenL _ (hI0.is 0) g0 R R Tryz.underlying54 R<|xk 3 [] R<|M.c R H1 (fun h2 H1=>xg 5 [] R<|M.b H1 fun x2 hx2 H1=>M.b H1 fun x3 hx3 H1=>xg 3 [] R<|K.idxL _ _ (hI0.is 0) (atL_get hx2) (atL_nn hx2) g0 R R R Tryz.underlying54 el54.size_run R<|K.loadSL Y _ _ 0 [_,_] [_,_] (hI0.is 0) (atL_get hx2) g0 R R t28 R R R R R<|xd 2 [] R<|K.idxL _ _ (hI1.is 0) (atL_get hx3) (atL_nn hx3) g0 R R R Tryz.underlying54 el54.size_run R<|K.loadSL Y _ _ 0 [_,_] [_,_] (hI1.is 0) (atL_get hx3) g0 R R t28 R R R R R<|K.eqS [_,_] [_,_] g0 R R cmp28 R (.inr R) (!((x2.key == x3.key)&&((x2.id == x3.id)&&true))) R R<|M.n<|xa 1 [] R<|M.c R H1 (fun h3 H1=>xg 11 [] R<|by cases H1;exact have H0:=sum_l H0;by cases H0;exact ZR []) (fun h3 H1=>xg 8 [] R<|M.ag H1 [])) (fun h2 H1=>xg 4 [] R<|M.jd ⟨(),oi H1⟩ []))<|by rintro ⟨w1,rfl⟩;exact have H0:=sum_r H0;xg 6 [] R<|by cases H0;exact ZR [])
abbrev Lw13_Same_st (m1:Nat):Prop:=∀ {k:Nat} {S:Foot} {W0:World} {A:List (Nat→Nat)} {s0_0:Value} {s1:Value} {Q:List TQueue} {a0:TViews} {l1:List TItem} {r:Bool} (hL_9:A.length=Q.length) (hL0_0:LArg S W0 s0_0 (eTPart A) 4 a0.parts) (hL1:LArg S W0 s1 eTItem 2 l1) (H0:Lw13_Same.f k Q a0 l1=some r),SCon Tryz.prog 25 [.a (.agg [.v s0_0]),SV.raw s1] [(0,rd S W0),(m1,hp m1 tq A Q)] (.a (.c (.v (.bool r)))) [(0,rd S W0),(m1,hp m1 tq A Q)] []
set_option maxHeartbeats 4000000 in
theorem Lw13_Same_con0:Lw13_Same_st 1:=by
 intro k S W0 A s0_0 s1 Q a0 l1 r hL_9 hL0_0 hL1 H0
 rw [Lw13_Same.f] at H0
 obtain ⟨b1,o1,hI1⟩:=hL1
 obtain ⟨b0_0,o0_0,hI0_0⟩:=hL0_0
 obtain ⟨ao0_0,cap0_0,hE0_0,_⟩:=hI0_0.sl
 subst hE0_0
 exact M.s Tryz.func25 Tryz.ntmps25 R fun β W F=>xg 6 [100] R<|M.b H0 fun x1 H1 H0=>M.j (σ:={ v:Unit // x1=Sum.inr v }) (fun q=>[(1,SV.raw s1),(2,.a (.c (.p 101 0)))]) (fun q=>[(0,rd S W0),(101,blk 101 [.v (Value.slice ao0_0 a0.parts.length cap0_0)] 42),(1,hp 1 tq A Q)]) (xg 1 [] R<|M.b H1 fun x2 hx2 H1=>M.i (t:=(x2 != (l1.length:Int))) (fun h1=>have H1:=bif_t H1 h1;xg 2 [] R<|K.cV (cf 20 R) [0] (fun β w S2 h=>fuse_Views_Len_con 1 (a0:=a0) hL_9 ((hI0_0.isC 0).larg ⟨_,List.mem_cons_self⟩ h) hx2) g0 (fun _=>R) R R R<|xk 1 [] R<|K.lenL _ (hI1.is 0) g0 R R Tryz.underlying54 R<|xk 2 [] R<|kk h1 R<|kk h1 R<|kk h1 R<|kk h1 R<|kk h1 R<|K.pickT g0 R (h1) R R<|xk 2 [] R<|G.cond R (fun h2=>xg 7 [] R<|by cases H1;exact have H0:=sum_l H0;by cases H0;exact ZR []) (fun h2=>by cases h2)) (fun h1=>have H1:=bif_f H1 h1;M.b H1 fun x3 hx3 H1=>M.b H1 fun x4 hx4 H1=>xg 2 [] R<|K.cV (cf 20 R) [0] (fun β w S2 h=>fuse_Views_Len_con 1 (a0:=a0) hL_9 ((hI0_0.isC 0).larg ⟨_,List.mem_cons_self⟩ h) hx2) g0 (fun _=>R) R R R<|xk 1 [] R<|K.lenL _ (hI1.is 0) g0 R R Tryz.underlying54 R<|xk 2 [] R<|K.loadS Y _ (g1 R R h1) R R t42 R R R<|K.cV (cf 26 R) [0] (fun β w S2 h=>fuse_Views_Items_con 1 102 R (a0:=a0) hL_9 ((hI0_0.isC 0).larg ⟨_,List.mem_cons_self⟩ h) hx3) (g1 R R h1) (fun _=>R) R R R<|K.move (.inl R) (g1 R R h1) R R<|K.cV (cf 48 R) [102,0] (fun β w S2 h=>R02_Same_con (la 0 R eTItem_len R h) ((hI1.isC 0).larg ⟨_,(List.mem_cons_of_mem _ List.mem_cons_self)⟩ h) hx4) (g1 R R h1) (fun _=>R) R R R<|K.un (V:=.bool (!x4)) (g1 R R h1) R (fun _=>R) R<|K.pickF g0 R (h1) R R<|xk 2 [] R<|M.c R H1 (fun h3 H1=>xg 7 [] R<|by cases H1;exact have H0:=sum_l H0;by cases H0;exact ZR []) (fun h3 H1=>xg 1 [] R<|M.jd ⟨(),oi H1⟩ [(101,100)])))<|by rintro ⟨w1,rfl⟩;exact have H0:=sum_r H0;M.b H0 fun x5 H1 H0=>M.j (σ:={ v:Unit // x5=Sum.inr v }) (fun q=>[(1,SV.raw s1),(2,.a (.c (.p 103 0)))]) (fun q=>[(0,rd S W0),(103,blk 103 [.v (Value.slice ao0_0 a0.parts.length cap0_0)] 42),(1,hp 1 tq A Q)]) (xg 6 [] R<|M.l (Lw13_Same.l0 k Q a0 l1) H1 (fun v1=>[(1,SV.raw s1),(2,.a (.c (.p 106 0))),(5,.a (.c (.v (.int .i64 v1))))]) (fun v1=>[(0,rd S W0),(106,blk 106 [.v (Value.slice ao0_0 a0.parts.length cap0_0)] 42),(1,hp 1 tq A Q)]) [(106,101)] fun n0 v1 H1=>xg 5 [] R<|K.lenL _ (hI1.is 0) g0 R R Tryz.underlying54 R<|xk 3 [] R<|M.c R H1 (fun h4 H1=>xg 5 [] R<|M.b H1 fun x6 hx6 H1=>xg 3 [] R<|K.cV (cf 40 R) [0] (fun β w S2 h=>fuse_Views_At_con 1 (a0:=a0) hL_9 ((hI0_0.isC 0).larg ⟨_,List.mem_cons_self⟩ h) hx6) g0 (fun _=>R) R R R<|xk 8 [107] R<|M.b H1 fun x7 H2 H1=>M.x ([(1,SV.raw s1),(2,.a (.c (.p 108 0))),(5,.a (.c (.v (.int .i64 v1)))),(6,.a (.c (.p 109 0))),(7,.a (.c (.v (.bool x6.2)))),(8,.a (.c (.v (.bool x7))))]) ([(0,rd S W0),(108,blk 108 [.v (Value.slice ao0_0 a0.parts.length cap0_0)] 42),(109,blk 109 [.v (.int .i64 x6.1.key),.v (.int .i64 x6.1.id)] 28),(1,hp 1 tq A Q)]) (M.i (t:=(decide (v1≥0))) (fun h5=>have H2:=bif_t H2 h5;xg 4 [] R<|K.move (.inl R) (g1 R R h5) R R<|K.move (.inl R) (g1 R R h5) R R<|K.lenL _ (hI1.is 0) (g1 R R h5) R R Tryz.underlying54 R<|K.bin (V:=.bool (decide (v1<(l1.length:Int)))) (g1 R R h5) R R (fun _=>R) R<|K.pickT g0 R (h5) R R<|xk 2 [] R<|by cases H2;exact M.xd [(108,106),(109,107)]) (fun h5=>have H2:=bif_f H2 h5;xg 4 [] R<|kk h5 R<|kk h5 R<|kk h5 R<|kk h5 R<|K.pickF g0 R (h5) R R<|xk 2 [] R<|by cases H2;exact M.xd [(108,106),(109,107)]))<|xg 1 [] R<|M.i (t:=(!(x6.2 == x7))) (fun h6=>have H1:=bif_t H1 h6;xg 3 [] R<|K.bin (V:=.bool (!(x6.2 == x7))) g0 R R (bq_neq Tryz.underlying4 _ _) R<|xd 1 [] R<|kk h6 R<|kk h6 R<|K.skipU R R R R R<|K.skipU R R R R R<|K.skipU R R R R R<|K.skipU R R R R R<|K.skipU R R R R R<|K.skipU R R R R R<|kk h6 R<|K.pickT g0 R (h6) R R<|xd 1 [] R<|kk R R<|kk R R<|kk R R<|K.skipU R R R R R<|K.skipU R R R R R<|K.skipU R R R R R<|kk R R<|K.pickT g0 R (R) R R<|M.n<|xa 1 [] R<|G.cond R (fun h7=>xg 11 [] R<|by cases H1;exact have H0:=sum_l H0;by cases H0;exact ZR []) (fun h7=>by cases h7)) (fun h6=>have H1:=bif_f H1 h6;M.i (t:=x7) (fun h8=>have H1:=bif_t H1 h8;M.b H1 fun x8 hx8 H1=>M.i (t:=(!((x6.1.key == x8.key)&&((x6.1.id == x8.id)&&true)))) (fun h9=>have H1:=bif_t H1 h9;xg 3 [] R<|K.bin (V:=.bool (!(x6.2 == x7))) g0 R R (bq_neq Tryz.underlying4 _ _) R<|xd 1 [] R<|K.move (.inl R) (g1 R R h6) R R<|K.move (.inl R) (g1 R R h6) R R<|K.loadS Y _ (g1 R R h8) R R t28 R R R<|K.move (.inl R) (g1 R R h8) R R<|K.move (.inl R) (g1 R R h8) R R<|K.idxL _ _ (hI1.is 0) (atL_get hx8) (atL_nn hx8) (g1 R R h8) R R R Tryz.underlying54 el54.size_run R<|K.loadSL Y _ _ 0 [_,_] [_,_] (hI1.is 0) (atL_get hx8) (g1 R R h8) R R t28 R R R R R<|K.eqS [_,_] [_,_] (g1 R R h8) R R cmp28 R (.inr R) (!((x6.1.key == x8.key)&&((x6.1.id == x8.id)&&true))) R R<|K.pickT (g1 R R h6) R (h8) R R<|K.pickF g0 R (h6) R R<|xd 1 [] R<|kk h9 R<|kk h9 R<|kk h9 R<|K.skipU R R R R R<|K.skipU R R R R R<|K.skipU R R R R R<|kk h9 R<|K.pickT g0 R (h9) R R<|M.n<|xa 1 [] R<|G.cond R (fun h10=>xg 11 [] R<|by cases H1;exact have H0:=sum_l H0;by cases H0;exact ZR []) (fun h10=>by cases h10)) (fun h9=>have H1:=bif_f H1 h9;M.i (t:=(!x7)) (fun h11=>have H1:=bif_t H1 h11;xg 3 [] R<|K.bin (V:=.bool (!(x6.2 == x7))) g0 R R (bq_neq Tryz.underlying4 _ _) R<|xd 1 [] R<|K.move (.inl R) (g1 R R h6) R R<|K.move (.inl R) (g1 R R h6) R R<|K.loadS Y _ (g1 R R h8) R R t28 R R R<|K.move (.inl R) (g1 R R h8) R R<|K.move (.inl R) (g1 R R h8) R R<|K.idxL _ _ (hI1.is 0) (atL_get hx8) (atL_nn hx8) (g1 R R h8) R R R Tryz.underlying54 el54.size_run R<|K.loadSL Y _ _ 0 [_,_] [_,_] (hI1.is 0) (atL_get hx8) (g1 R R h8) R R t28 R R R R R<|K.eqS [_,_] [_,_] (g1 R R h8) R R cmp28 R (.inr R) (!((x6.1.key == x8.key)&&((x6.1.id == x8.id)&&true))) R R<|K.pickT (g1 R R h6) R (h8) R R<|K.pickF g0 R (h6) R R<|xd 1 [] R<|K.move (.inl R) (g1 R R h9) R R<|K.un (V:=.bool (!x7)) (g1 R R h9) R (fun _=>R) R<|K.move (.inl R) (g1 R R h9) R R<|K.loadS Y _ (g1 R R h11) R R t28 R R R<|K.build Y [] [_,_] [] (g1 R R h11) (AllE.spec trivial) R R t28 R R<|K.eqS [_,_] [_,_] (g1 R R h11) R R cmp28 R (.inr R) (!((x6.1.key == 0)&&((x6.1.id == 0)&&true))) R R<|K.pickT (g1 R R h9) R (h11) R R<|K.pickF g0 R (h9) R R<|M.n<|xa 1 [] R<|M.c R H1 (fun h12 H1=>xg 11 [] R<|by cases H1;exact have H0:=sum_l H0;by cases H0;exact ZR []) (fun h12 H1=>xg 8 [] R<|M.ag H1 [(106,108)])) (fun h11=>have H1:=bif_f H1 h11;xg 3 [] R<|K.bin (V:=.bool (!(x6.2 == x7))) g0 R R (bq_neq Tryz.underlying4 _ _) R<|xd 1 [] R<|K.move (.inl R) (g1 R R h6) R R<|K.move (.inl R) (g1 R R h6) R R<|K.loadS Y _ (g1 R R h8) R R t28 R R R<|K.move (.inl R) (g1 R R h8) R R<|K.move (.inl R) (g1 R R h8) R R<|K.idxL _ _ (hI1.is 0) (atL_get hx8) (atL_nn hx8) (g1 R R h8) R R R Tryz.underlying54 el54.size_run R<|K.loadSL Y _ _ 0 [_,_] [_,_] (hI1.is 0) (atL_get hx8) (g1 R R h8) R R t28 R R R R R<|K.eqS [_,_] [_,_] (g1 R R h8) R R cmp28 R (.inr R) (!((x6.1.key == x8.key)&&((x6.1.id == x8.id)&&true))) R R<|K.pickT (g1 R R h6) R (h8) R R<|K.pickF g0 R (h6) R R<|xd 1 [] R<|K.move (.inl R) (g1 R R h9) R R<|K.un (V:=.bool (!x7)) (g1 R R h9) R (fun _=>R) R<|K.move (.inl R) (g1 R R h9) R R<|kk h11 R<|kk h11 R<|kk h11 R<|K.pickF (g1 R R h9) R (h11) R R<|K.pickF g0 R (h9) R R<|M.n<|xa 1 [] R<|G.cond R (fun h13=>by cases h13) (fun h13=>xg 8 [] R<|M.ag H1 [(106,108)])))) (fun h8=>have H1:=bif_f H1 h8;M.i (t:=(!x7)) (fun h14=>have H1:=bif_t H1 h14;xg 3 [] R<|K.bin (V:=.bool (!(x6.2 == x7))) g0 R R (bq_neq Tryz.underlying4 _ _) R<|xd 1 [] R<|K.move (.inl R) (g1 R R h6) R R<|K.move (.inl R) (g1 R R h6) R R<|kk h8 R<|kk h8 R<|kk h8 R<|kk h8 R<|kk h8 R<|kk h8 R<|K.pickF (g1 R R h6) R (h8) R R<|K.pickF g0 R (h6) R R<|xd 1 [] R<|K.move (.inl R) (g1 R R R) R R<|K.un (V:=.bool (!x7)) (g1 R R R) R (fun _=>R) R<|K.move (.inl R) (g1 R R R) R R<|K.loadS Y _ (g1 R R h14) R R t28 R R R<|K.build Y [] [_,_] [] (g1 R R h14) (AllE.spec trivial) R R t28 R R<|K.eqS [_,_] [_,_] (g1 R R h14) R R cmp28 R (.inr R) (!((x6.1.key == 0)&&((x6.1.id == 0)&&true))) R R<|K.pickT (g1 R R R) R (h14) R R<|K.pickF g0 R (R) R R<|M.n<|xa 1 [] R<|M.c R H1 (fun h15 H1=>xg 11 [] R<|by cases H1;exact have H0:=sum_l H0;by cases H0;exact ZR []) (fun h15 H1=>xg 8 [] R<|M.ag H1 [(106,108)])) (fun h14=>have H1:=bif_f H1 h14;xg 3 [] R<|K.bin (V:=.bool (!(x6.2 == x7))) g0 R R (bq_neq Tryz.underlying4 _ _) R<|xd 1 [] R<|K.move (.inl R) (g1 R R h6) R R<|K.move (.inl R) (g1 R R h6) R R<|kk h8 R<|kk h8 R<|kk h8 R<|kk h8 R<|kk h8 R<|kk h8 R<|K.pickF (g1 R R h6) R (h8) R R<|K.pickF g0 R (h6) R R<|xd 1 [] R<|K.move (.inl R) (g1 R R R) R R<|K.un (V:=.bool (!x7)) (g1 R R R) R (fun _=>R) R<|K.move (.inl R) (g1 R R R) R R<|kk h14 R<|kk h14 R<|kk h14 R<|K.pickF (g1 R R R) R (h14) R R<|K.pickF g0 R (R) R R<|M.n<|xa 1 [] R<|G.cond R (fun h16=>by cases h16) (fun h16=>xg 8 [] R<|M.ag H1 [(106,108)]))))) (fun h4 H1=>xg 4 [] R<|M.jd ⟨(),oi H1⟩ [(103,106)]))<|by rintro ⟨w5,rfl⟩;exact have H0:=sum_r H0;xg 1 [] R<|M.b H0 fun x9 hx9 H0=>xg 2 [] R<|K.cV (cf 19 R) [0] (fun β w S2 h=>fuse_Views_Min_con 1 (a0:=a0) hL_9 ((hI0_0.isC 0).larg ⟨_,List.mem_cons_self⟩ h) hx9) g0 (fun _=>R) R R R<|xk 9 [110] R<|M.i (t:=(x9.2 == (decide ((l1.length:Int)>0)))) (fun h17=>have H0:=bif_t H0 h17;M.i (t:=(!x9.2)) (fun h18=>have H0:=bif_t H0 h18;xg 3 [] R<|K.lenL _ (hI1.is 0) g0 R R Tryz.underlying54 R<|xd 1 [] R<|K.bin (V:=.bool (x9.2 == (decide ((l1.length:Int)>0)))) g0 R R (bq_eql Tryz.underlying4 _ _) R<|xd 1 [] R<|K.move (.inl R) (g1 R R h17) R R<|K.un (V:=.bool (!x9.2)) (g1 R R h17) R (fun _=>R) R<|K.move (.inl R) (g1 R R h17) R R<|kk h18 R<|kk h18 R<|kk h18 R<|kk h18 R<|kk h18 R<|K.pickT (g1 R R h17) R (h18) R R<|K.pickT g0 R (h17) R R<|xd 1 [] R<|M.n<|xa 2 [] R<|by cases H0;exact ZR []) (fun h18=>have H0:=bif_f H0 h18;M.b H0 fun x10 hx10 H0=>xg 3 [] R<|K.lenL _ (hI1.is 0) g0 R R Tryz.underlying54 R<|xd 1 [] R<|K.bin (V:=.bool (x9.2 == (decide ((l1.length:Int)>0)))) g0 R R (bq_eql Tryz.underlying4 _ _) R<|xd 1 [] R<|K.move (.inl R) (g1 R R h17) R R<|K.un (V:=.bool (!x9.2)) (g1 R R h17) R (fun _=>R) R<|K.move (.inl R) (g1 R R h17) R R<|K.loadS Y _ (g1 R R h18) R R t28 R R R<|K.move (.inl R) (g1 R R h18) R R<|K.idxL _ _ (hI1.is 0) (atL_get hx10) (atL_nn hx10) (g1 R R h18) R R R Tryz.underlying54 el54.size_run R<|K.loadSL Y _ _ 0 [_,_] [_,_] (hI1.is 0) (atL_get hx10) (g1 R R h18) R R t28 R R R R R<|K.eqS [_,_] [_,_] (g1 R R h18) R R cmp28 R (.inl R) ((x9.1.key == x10.key)&&((x9.1.id == x10.id)&&true)) R R<|K.pickF (g1 R R h17) R (h18) R R<|K.pickT g0 R (h17) R R<|xd 1 [] R<|M.n<|xa 2 [] R<|by cases H0;exact ZR [])) (fun h17=>have H0:=bif_f H0 h17;xg 3 [] R<|K.lenL _ (hI1.is 0) g0 R R Tryz.underlying54 R<|xd 1 [] R<|K.bin (V:=.bool (x9.2 == (decide ((l1.length:Int)>0)))) g0 R R (bq_eql Tryz.underlying4 _ _) R<|xd 1 [] R<|kk h17 R<|kk h17 R<|kk h17 R<|K.skipU R R R R R<|K.skipU R R R R R<|K.skipU R R R R R<|K.skipU R R R R R<|K.skipU R R R R R<|kk h17 R<|K.pickF g0 R (h17) R R<|xd 1 [] R<|M.n<|xa 2 [] R<|by cases H0;exact ZR [])
theorem Lw13_Same_con (m1:Nat):Lw13_Same_st m1:=fun hL_9 hL0_0 hL1 H0=>cnA [(1,m1)] (Lw13_Same_con0 hL_9 hL0_0 hL1 H0)
theorem R01_Rest_con {k:Nat} {a0:Int} {a1:Int} {r:Int} (H0:R01_Rest.f k a0 a1=some r):SCon Tryz.prog 33 [.a (.c (.v (.int .i64 a0))),.a (.c (.v (.int .i64 a1)))] [] (.a (.c (.v (.int .i64 r)))) [] []:=by
 rw [R01_Rest.f] at H0
 exact M.s Tryz.func33 Tryz.ntmps33 R fun β W F=>xg 6 [] R<|M.e H0 fun h1 H0=>M.e H0 fun h2 H0=>xg 3 [] R<|K.bin (V:=.int .i64 (a0.tmod a1)) g0 R R (rem_run h1) R<|xk 3 [] R<|K.bin (V:=.int .i64 ((w64 ((a0.tmod a1)+a1)).tmod a1)) g0 R R (rem_run h2) R<|xk 4 [] R<|by cases H0;exact ZR []
abbrev Lw14_do_o1_st (m0 m1 m2 m130 m30:Nat):Prop:=∀ {k:Nat} {q0:TPast} {l1:List TOp} {a2:Int} {a3:TL12Act} {r:List TOp×Bool×TPast} (H0:Lw14_do.f k q0 l1 a2 a3=some r),SCon Tryz.prog 15 [SV.p m0 0,.a (.c (.nv m2)),.a (.c (.v (.int .i64 a2))),.a (.agg ((eTL12Act a3).map .v))] [(m0,blk m0 [.v (.int .i64 q0.capacity),.nv m1] 58),(m1,ptT eTOp payQ 62 m1 q0.root),(m2,lrow m2 45 eTOp 4 l1)] (.tup [.c (.nv m30),.c (.v (.bool r.2.1))]) [(m0,blk m0 [.v (.int .i64 r.2.2.capacity),.nv m130] 58),(m130,ptT eTOp payQ 62 m130 r.2.2.root),(m30,lrow m30 45 eTOp 4 r.1)] [m130,m30]
set_option maxHeartbeats 4000000 in
theorem Lw14_do_o1_con0:Lw14_do_o1_st 0 1 2 130 30:=by
 intro k q0 l1 a2 a3 r H0
 rw [Lw14_do.f] at H0
 exact M.s Tryz.func15 Tryz.ntmps15 R fun β W F=>xg 3 [100] R<|K.nilRow 101 45 eTOp 4 (.inl R) g0 R R R<|xk 12 [] R<|M.i (t:=a3.told) (fun h1=>have H0:=bif_t H0 h1;xg 4 [] R<|K.move (.inl R) (g1 R R h1) R R<|K.lenL _ (lrowV_is eTOp_len (by decide)) (g1 R R h1) R R Tryz.underlying34 R<|K.bin (V:=.bool (decide ((l1.length:Int)>0))) (g1 R R h1) R R (fun _=>R) R<|K.pickT g0 R (h1) R R<|xk 2 [] R<|M.c R H0 (fun h2 H0=>M.b H0 fun x1 hx1 H0=>M.b H0 fun x2 hx2 H0=>xg 5 [] R<|K.lenL _ (lrowV_is eTOp_len (by decide)) g0 R R Tryz.underlying34 R<|kR (R01_Rest_con hx1) R<|K.idxL _ _ (lrowV_is eTOp_len (by decide)) (atL_get hx2) (atL_nn hx2) g0 R R R Tryz.underlying34 el34.size_run R<|K.fieldL Y _ _ 0 0 (lrowV_is eTOp_len (by decide)) (atL_get hx2) g0 R R t45 R R R R<|K.load1L Y _ _ 0 (lrowV_is eTOp_len (by decide)) (atL_get hx2) g0 R R t3 R R<|xk 4 [] R<|M.b H0 fun x3 hx3 H0=>xg 3 [] R<|K.cV (cf 34 R) [2] (fun β w S2 h=>R12_At_con (la 0 R eTOp_len R h) hx3) g0 (fun _=>R) R R R<|xk 25 [102] R<|M.b H0 fun x4 hx4 H0=>xg 3 [] R<|kR (R01_Rest_con hx4) R<|xk 9 [] R<|M.c R H0 (fun h3 H0=>xg 1 [] R<|M.b H0 fun x5 hx5 H0=>xg 5 [] R<|K.cC (cf 10 R) [] (fun β w S2 h=>SCon.rd0 (past_Past_Insert_con 0 1 103 R hx5) S2 w h) g0 (fun _=>R) R R R<|xk 16 [] R<|K.lenL _ (lrowV_is eTOp_len (by decide)) g0 R R Tryz.underlying34 R<|xk 4 [] R<|M.c R H0 (fun h4 H0=>xg 15 [] R<|by cases H0;exact ZR [(30,2),(130,103)]) (fun h4 H0=>xg 6 [] R<|M.c R H0 (fun h5 H0=>xg 15 [] R<|by cases H0;exact ZR [(30,2),(130,103)]) (fun h5 H0=>xg 1 [] R<|M.b H0 fun x6 hx6 H0=>xg 4 [] R<|K.move (.inl R) (g1 R R R) R R<|K.fieldAddr Y (g1 R R R) R t38 R R<|K.loadS Y _ (g1 R R R) R R t28 R R R<|K.cV (cf 36 R) [2] (fun β w S2 h=>R12_Has_con (la 0 R eTOp_len R h) hx6) (g1 R R R) (fun _=>R) R R R<|K.pickT g0 R (R) R R<|xk 2 [] R<|M.c R H0 (fun h6 H0=>xg 15 [] R<|by cases H0;exact ZR [(30,2),(130,103)]) (fun h6 H0=>M.b H0 fun x7 hx7 H0=>xg 3 [] R<|K.cV (cf 37 R) [2] (fun β w S2 h=>R12_Add_con 104 R (la 0 R eTOp_len R h) hx7) g0 (fun _=>R) R R R<|xk 14 [] R<|by cases H0;exact ZR [(30,104),(130,103)])))) (fun h3 H0=>xg 6 [] R<|M.c R H0 (fun h7 H0=>M.b H0 fun x8 hx8 H0=>xg 3 [] R<|K.cC (cf 27 R) [] (fun β w S2 h=>SCon.rd0 (past_Past_Delete_con 0 1 105 R hx8) S2 w h) g0 (fun _=>R) R R R<|xk 8 [] R<|K.lenL _ (lrowV_is eTOp_len (by decide)) g0 R R Tryz.underlying34 R<|xk 4 [] R<|M.c R H0 (fun h8 H0=>xg 15 [] R<|by cases H0;exact ZR [(30,2),(130,105)]) (fun h8 H0=>xg 6 [] R<|M.c R H0 (fun h9 H0=>xg 15 [] R<|by cases H0;exact ZR [(30,2),(130,105)]) (fun h9 H0=>xg 5 [] R<|kk R R<|kk R R<|kk R R<|kk R R<|K.pickF g0 R (R) R R<|xk 2 [] R<|G.cond R (fun h10=>by cases h10) (fun h10=>M.b H0 fun x9 hx9 H0=>xg 3 [] R<|K.cV (cf 37 R) [2] (fun β w S2 h=>R12_Add_con 106 R (la 0 R eTOp_len R h) hx9) g0 (fun _=>R) R R R<|xk 14 [] R<|by cases H0;exact ZR [(30,106),(130,105)])))) (fun h7 H0=>xg 6 [] R<|M.c R H0 (fun h11 H0=>xg 7 [] R<|M.c R H0 (fun h12 H0=>xg 1 [] R<|M.b H0 fun x10 hx10 H0=>xg 4 [] R<|K.cC (cf 14 R) [] (fun β w S2 h=>SCon.rd0 (past_Past_Revoke_con 0 1 107 R hx10) S2 w h) g0 (fun _=>R) R R R<|xk 9 [] R<|by cases H0;exact ZR [(30,2),(130,107)]) (fun h12 H0=>xg 3 [] R<|M.b H0 fun x11 hx11 H0=>M.b H0 fun x12 hx12 H0=>xg 3 [] R<|K.cV (cf 35 R) [2] (fun β w S2 h=>R12_Without_con 108 R (la 0 R eTOp_len R h) hx11) g0 (fun _=>R) R R R<|xk 2 [] R<|K.cC (cf 14 R) [] (fun β w S2 h=>SCon.rd0 (past_Past_Revoke_con 0 1 109 R hx12) S2 w h) g0 (fun _=>R) R R R<|xk 8 [] R<|by cases H0;exact ZR [(30,108),(130,109)])) (fun h11 H0=>xg 7 [] R<|K.lenL _ (lrowV_is eTOp_len (by decide)) g0 R R Tryz.underlying34 R<|xk 4 [] R<|M.c R H0 (fun h13 H0=>xg 15 [] R<|by cases H0;exact ZR [(30,2),(130,1)]) (fun h13 H0=>xg 6 [] R<|M.c R H0 (fun h14 H0=>xg 15 [] R<|by cases H0;exact ZR [(30,2),(130,1)]) (fun h14 H0=>xg 5 [] R<|kk R R<|kk R R<|kk R R<|kk R R<|K.pickF g0 R (R) R R<|xk 2 [] R<|G.cond R (fun h15=>by cases h15) (fun h15=>M.b H0 fun x13 hx13 H0=>xg 3 [] R<|K.cV (cf 37 R) [2] (fun β w S2 h=>R12_Add_con 110 R (la 0 R eTOp_len R h) hx13) g0 (fun _=>R) R R R<|xk 14 [] R<|by cases H0;exact ZR [(30,110),(130,1)]))))))) (fun h2 H0=>xg 3 [] R<|M.b H0 fun x14 hx14 H0=>xg 3 [] R<|K.cV (cf 34 R) [2] (fun β w S2 h=>R12_At_con (la 0 R eTOp_len R h) hx14) g0 (fun _=>R) R R R<|xk 25 [111] R<|M.b H0 fun x15 hx15 H0=>xg 3 [] R<|kR (R01_Rest_con hx15) R<|xk 9 [] R<|M.c R H0 (fun h16 H0=>xg 1 [] R<|M.b H0 fun x16 hx16 H0=>xg 5 [] R<|K.cC (cf 10 R) [] (fun β w S2 h=>SCon.rd0 (past_Past_Insert_con 0 1 112 R hx16) S2 w h) g0 (fun _=>R) R R R<|xk 16 [] R<|K.lenL _ (lrowV_is eTOp_len (by decide)) g0 R R Tryz.underlying34 R<|xk 4 [] R<|M.c R H0 (fun h17 H0=>xg 15 [] R<|by cases H0;exact ZR [(30,2),(130,112)]) (fun h17 H0=>xg 6 [] R<|M.c R H0 (fun h18 H0=>xg 15 [] R<|by cases H0;exact ZR [(30,2),(130,112)]) (fun h18 H0=>xg 1 [] R<|M.b H0 fun x17 hx17 H0=>xg 4 [] R<|K.move (.inl R) (g1 R R R) R R<|K.fieldAddr Y (g1 R R R) R t38 R R<|K.loadS Y _ (g1 R R R) R R t28 R R R<|K.cV (cf 36 R) [2] (fun β w S2 h=>R12_Has_con (la 0 R eTOp_len R h) hx17) (g1 R R R) (fun _=>R) R R R<|K.pickT g0 R (R) R R<|xk 2 [] R<|M.c R H0 (fun h19 H0=>xg 15 [] R<|by cases H0;exact ZR [(30,2),(130,112)]) (fun h19 H0=>M.b H0 fun x18 hx18 H0=>xg 3 [] R<|K.cV (cf 37 R) [2] (fun β w S2 h=>R12_Add_con 113 R (la 0 R eTOp_len R h) hx18) g0 (fun _=>R) R R R<|xk 14 [] R<|by cases H0;exact ZR [(30,113),(130,112)])))) (fun h16 H0=>xg 6 [] R<|M.c R H0 (fun h20 H0=>M.b H0 fun x19 hx19 H0=>xg 3 [] R<|K.cC (cf 27 R) [] (fun β w S2 h=>SCon.rd0 (past_Past_Delete_con 0 1 114 R hx19) S2 w h) g0 (fun _=>R) R R R<|xk 8 [] R<|K.lenL _ (lrowV_is eTOp_len (by decide)) g0 R R Tryz.underlying34 R<|xk 4 [] R<|M.c R H0 (fun h21 H0=>xg 15 [] R<|by cases H0;exact ZR [(30,2),(130,114)]) (fun h21 H0=>xg 6 [] R<|M.c R H0 (fun h22 H0=>xg 15 [] R<|by cases H0;exact ZR [(30,2),(130,114)]) (fun h22 H0=>xg 5 [] R<|kk R R<|kk R R<|kk R R<|kk R R<|K.pickF g0 R (R) R R<|xk 2 [] R<|G.cond R (fun h23=>by cases h23) (fun h23=>M.b H0 fun x20 hx20 H0=>xg 3 [] R<|K.cV (cf 37 R) [2] (fun β w S2 h=>R12_Add_con 115 R (la 0 R eTOp_len R h) hx20) g0 (fun _=>R) R R R<|xk 14 [] R<|by cases H0;exact ZR [(30,115),(130,114)])))) (fun h20 H0=>xg 6 [] R<|M.c R H0 (fun h24 H0=>xg 7 [] R<|M.c R H0 (fun h25 H0=>xg 1 [] R<|M.b H0 fun x21 hx21 H0=>xg 4 [] R<|K.cC (cf 14 R) [] (fun β w S2 h=>SCon.rd0 (past_Past_Revoke_con 0 1 116 R hx21) S2 w h) g0 (fun _=>R) R R R<|xk 9 [] R<|by cases H0;exact ZR [(30,2),(130,116)]) (fun h25 H0=>xg 3 [] R<|M.b H0 fun x22 hx22 H0=>M.b H0 fun x23 hx23 H0=>xg 3 [] R<|K.cV (cf 35 R) [2] (fun β w S2 h=>R12_Without_con 117 R (la 0 R eTOp_len R h) hx22) g0 (fun _=>R) R R R<|xk 2 [] R<|K.cC (cf 14 R) [] (fun β w S2 h=>SCon.rd0 (past_Past_Revoke_con 0 1 118 R hx23) S2 w h) g0 (fun _=>R) R R R<|xk 8 [] R<|by cases H0;exact ZR [(30,117),(130,118)])) (fun h24 H0=>xg 7 [] R<|K.lenL _ (lrowV_is eTOp_len (by decide)) g0 R R Tryz.underlying34 R<|xk 4 [] R<|M.c R H0 (fun h26 H0=>xg 15 [] R<|by cases H0;exact ZR [(30,2),(130,1)]) (fun h26 H0=>xg 6 [] R<|M.c R H0 (fun h27 H0=>xg 15 [] R<|by cases H0;exact ZR [(30,2),(130,1)]) (fun h27 H0=>xg 5 [] R<|kk R R<|kk R R<|kk R R<|kk R R<|K.pickF g0 R (R) R R<|xk 2 [] R<|G.cond R (fun h28=>by cases h28) (fun h28=>M.b H0 fun x24 hx24 H0=>xg 3 [] R<|K.cV (cf 37 R) [2] (fun β w S2 h=>R12_Add_con 119 R (la 0 R eTOp_len R h) hx24) g0 (fun _=>R) R R R<|xk 14 [] R<|by cases H0;exact ZR [(30,119),(130,1)])))))))) (fun h1=>have H0:=bif_f H0 h1;xg 4 [] R<|kk h1 R<|kk h1 R<|kk h1 R<|K.pickF g0 R (h1) R R<|xk 2 [] R<|G.cond R (fun h29=>by cases h29) (fun h29=>xg 3 [] R<|M.b H0 fun x25 hx25 H0=>xg 3 [] R<|K.cV (cf 34 R) [2] (fun β w S2 h=>R12_At_con (la 0 R eTOp_len R h) hx25) g0 (fun _=>R) R R R<|xk 25 [120] R<|M.b H0 fun x26 hx26 H0=>xg 3 [] R<|kR (R01_Rest_con hx26) R<|xk 9 [] R<|M.c R H0 (fun h30 H0=>xg 1 [] R<|M.b H0 fun x27 hx27 H0=>xg 5 [] R<|K.cC (cf 10 R) [] (fun β w S2 h=>SCon.rd0 (past_Past_Insert_con 0 1 121 R hx27) S2 w h) g0 (fun _=>R) R R R<|xk 16 [] R<|K.lenL _ (lrowV_is eTOp_len (by decide)) g0 R R Tryz.underlying34 R<|xk 4 [] R<|M.c R H0 (fun h31 H0=>xg 15 [] R<|by cases H0;exact ZR [(30,2),(130,121)]) (fun h31 H0=>xg 6 [] R<|M.c R H0 (fun h32 H0=>xg 15 [] R<|by cases H0;exact ZR [(30,2),(130,121)]) (fun h32 H0=>xg 1 [] R<|M.b H0 fun x28 hx28 H0=>xg 4 [] R<|K.move (.inl R) (g1 R R R) R R<|K.fieldAddr Y (g1 R R R) R t38 R R<|K.loadS Y _ (g1 R R R) R R t28 R R R<|K.cV (cf 36 R) [2] (fun β w S2 h=>R12_Has_con (la 0 R eTOp_len R h) hx28) (g1 R R R) (fun _=>R) R R R<|K.pickT g0 R (R) R R<|xk 2 [] R<|M.c R H0 (fun h33 H0=>xg 15 [] R<|by cases H0;exact ZR [(30,2),(130,121)]) (fun h33 H0=>M.b H0 fun x29 hx29 H0=>xg 3 [] R<|K.cV (cf 37 R) [2] (fun β w S2 h=>R12_Add_con 122 R (la 0 R eTOp_len R h) hx29) g0 (fun _=>R) R R R<|xk 14 [] R<|by cases H0;exact ZR [(30,122),(130,121)])))) (fun h30 H0=>xg 6 [] R<|M.c R H0 (fun h34 H0=>M.b H0 fun x30 hx30 H0=>xg 3 [] R<|K.cC (cf 27 R) [] (fun β w S2 h=>SCon.rd0 (past_Past_Delete_con 0 1 123 R hx30) S2 w h) g0 (fun _=>R) R R R<|xk 8 [] R<|K.lenL _ (lrowV_is eTOp_len (by decide)) g0 R R Tryz.underlying34 R<|xk 4 [] R<|M.c R H0 (fun h35 H0=>xg 15 [] R<|by cases H0;exact ZR [(30,2),(130,123)]) (fun h35 H0=>xg 6 [] R<|M.c R H0 (fun h36 H0=>xg 15 [] R<|by cases H0;exact ZR [(30,2),(130,123)]) (fun h36 H0=>xg 5 [] R<|kk R R<|kk R R<|kk R R<|kk R R<|K.pickF g0 R (R) R R<|xk 2 [] R<|G.cond R (fun h37=>by cases h37) (fun h37=>M.b H0 fun x31 hx31 H0=>xg 3 [] R<|K.cV (cf 37 R) [2] (fun β w S2 h=>R12_Add_con 124 R (la 0 R eTOp_len R h) hx31) g0 (fun _=>R) R R R<|xk 14 [] R<|by cases H0;exact ZR [(30,124),(130,123)])))) (fun h34 H0=>xg 6 [] R<|M.c R H0 (fun h38 H0=>xg 7 [] R<|M.c R H0 (fun h39 H0=>xg 1 [] R<|M.b H0 fun x32 hx32 H0=>xg 4 [] R<|K.cC (cf 14 R) [] (fun β w S2 h=>SCon.rd0 (past_Past_Revoke_con 0 1 125 R hx32) S2 w h) g0 (fun _=>R) R R R<|xk 9 [] R<|by cases H0;exact ZR [(30,2),(130,125)]) (fun h39 H0=>xg 3 [] R<|M.b H0 fun x33 hx33 H0=>M.b H0 fun x34 hx34 H0=>xg 3 [] R<|K.cV (cf 35 R) [2] (fun β w S2 h=>R12_Without_con 126 R (la 0 R eTOp_len R h) hx33) g0 (fun _=>R) R R R<|xk 2 [] R<|K.cC (cf 14 R) [] (fun β w S2 h=>SCon.rd0 (past_Past_Revoke_con 0 1 127 R hx34) S2 w h) g0 (fun _=>R) R R R<|xk 8 [] R<|by cases H0;exact ZR [(30,126),(130,127)])) (fun h38 H0=>xg 7 [] R<|K.lenL _ (lrowV_is eTOp_len (by decide)) g0 R R Tryz.underlying34 R<|xk 4 [] R<|M.c R H0 (fun h40 H0=>xg 15 [] R<|by cases H0;exact ZR [(30,2),(130,1)]) (fun h40 H0=>xg 6 [] R<|M.c R H0 (fun h41 H0=>xg 15 [] R<|by cases H0;exact ZR [(30,2),(130,1)]) (fun h41 H0=>xg 5 [] R<|kk R R<|kk R R<|kk R R<|kk R R<|K.pickF g0 R (R) R R<|xk 2 [] R<|G.cond R (fun h42=>by cases h42) (fun h42=>M.b H0 fun x35 hx35 H0=>xg 3 [] R<|K.cV (cf 37 R) [2] (fun β w S2 h=>R12_Add_con 128 R (la 0 R eTOp_len R h) hx35) g0 (fun _=>R) R R R<|xk 14 [] R<|by cases H0;exact ZR [(30,128),(130,1)]))))))))
theorem Lw14_do_o1_con (m0 m1 m2 m130 m30:Nat) (hd:ndB [m0,m1,m2,m130,m30]=true):Lw14_do_o1_st m0 m1 m2 m130 m30:=fun H0=>cnB [(0,m0),(1,m1),(2,m2),(130,m130),(30,m30)] hd (Lw14_do_o1_con0 H0)
set_option maxHeartbeats 4000000 in
theorem Lw14_PastBetween_con {k:Nat} {S:Foot} {W0:World} {s0:Value} {l0:List TL12Act} {r:Bool} (hL0:LArg S W0 s0 eTL12Act 5 l0) (H0:Lw14_PastBetween.f k l0=some r):SCon Tryz.prog 7 [SV.raw s0] [(0,rd S W0)] (.a (.c (.v (.bool r)))) [(0,rd S W0)] []:=by
 rw [Lw14_PastBetween.f] at H0
 obtain ⟨b0,o0,hI0⟩:=hL0
 exact M.s Tryz.func7 Tryz.ntmps7 R fun β W F=>xg 5 [] R<|M.b H0 fun x1 H1 H0=>M.j (σ:={ v:Unit // x1=Sum.inr v }) (fun q=>[(0,SV.raw s0)]) (fun q=>[(0,rd S W0)]) (xg 1 [] R<|M.b H1 fun x2 hx2 H1=>M.i (t:=(!x2)) (fun h1=>have H1:=bif_t H1 h1;xg 1 [] R<|kR (Lw14_awake_con hx2) R<|xk 2 [] R<|kk h1 R<|kk h1 R<|kk h1 R<|K.pickT g0 R (h1) R R<|xk 2 [] R<|G.cond R (fun h2=>xg 1 [] R<|M.b H1 fun x3 hx3 H1=>xg 1 [] R<|kR (Lw14_awake_con hx3) R<|xk 5 [] R<|by cases H1;exact have H0:=sum_l H0;by cases H0;exact ZR []) (fun h2=>by cases h2)) (fun h1=>have H1:=bif_f H1 h1;xg 1 [] R<|kR (Lw14_awake_con hx2) R<|xk 2 [] R<|K.move (.inl R) (g1 R R h1) R R<|K.lenL _ (hI0.is 0) (g1 R R h1) R R Tryz.underlying33 R<|K.bin (V:=.bool (decide ((l0.length:Int)>40))) (g1 R R h1) R R (fun _=>R) R<|K.pickF g0 R (h1) R R<|xk 2 [] R<|M.c R H1 (fun h3 H1=>xg 1 [] R<|M.b H1 fun x4 hx4 H1=>xg 1 [] R<|kR (Lw14_awake_con hx4) R<|xk 5 [] R<|by cases H1;exact have H0:=sum_l H0;by cases H0;exact ZR []) (fun h3 H1=>xg 1 [] R<|M.jd ⟨(),oi H1⟩ [])))<|by rintro ⟨w1,rfl⟩;exact have H0:=sum_r H0;xg 1 [] R<|M.b H0 fun x5 hx5 H0=>xg 1 [] R<|k0 (past_New_con 100 101 R hx5) R<|xk 5 [] R<|K.nilRow 102 45 eTOp 4 (.inl R) g0 R R R<|xk 2 [] R<|M.b H0 fun x6 H1 H0=>M.x ([(3,.a (.c (.p 103 0))),(4,.a (.c (.nv 105)))]) ([(0,rd S W0),(104,ptT eTOp payQ 62 104 x6.2.1),(103,blk 103 [.v (.int .i64 x6.1),.nv 104] 58),(105,lrow 105 45 eTOp 4 x6.2.2)]) (xg 6 [] R<|M.l (Lw14_PastBetween.l0 k l0) H1 (fun (v1,v2,v3,v4)=>[(0,SV.raw s0),(3,.a (.c (.p 112 0))),(4,.a (.c (.nv 114))),(5,.a (.c (.v (.int .i64 v4))))]) (fun (v1,v2,v3,v4)=>[(0,rd S W0),(113,ptT eTOp payQ 62 113 v2),(112,blk 112 [.v (.int .i64 v1),.nv 113] 58),(114,lrow 114 45 eTOp 4 v3)]) [(112,100),(113,101),(114,102)] fun n0 (v1,v2,v3,v4) H1=>xg 5 [] R<|K.lenL _ (hI0.is 0) g0 R R Tryz.underlying33 R<|xk 3 [] R<|M.c R H1 (fun h4 H1=>xg 4 [] R<|M.b H1 fun x7 hx7 H1=>M.b H1 fun x8 hx8 H1=>xg 5 [] R<|K.idxL _ _ (hI0.is 0) (atL_get hx7) (atL_nn hx7) g0 R R R Tryz.underlying33 el33.size_run R<|K.loadSL Y _ _ 0 [_,_,_,_,_] [_,_,_,_,_] (hI0.is 0) (atL_get hx7) g0 R R t38 R R R R R<|K.cC (cf 15 R) [] (fun β w S2 h=>SCon.rd0 (Lw14_do_o1_con 112 113 114 115 116 R hx8) S2 w h) g0 (fun _=>R) R R R<|xk 12 [] R<|M.ag H1 [(113,115),(114,116)]) (fun h4 H1=>xg 4 [] R<|by cases H1;exact M.xd [(103,112),(104,113),(105,114)]))<|M.b H0 fun x9 H1 H0=>M.j (σ:={ v:Unit // x9=Sum.inr v }) (fun q=>[(3,.a (.c (.p 117 0))),(4,.a (.c (.nv 119)))]) (fun q=>[(0,rd S W0),(118,ptT eTOp payQ 62 118 x6.2.1),(117,blk 117 [.v (.int .i64 x6.1),.nv 118] 58),(119,lrow 119 45 eTOp 4 x6.2.2)]) (xg 6 [] R<|M.l (Lw14_PastBetween.l1 k x6) H1 (fun v101=>[(3,.a (.c (.p 126 0))),(4,.a (.c (.nv 128))),(6,.a (.c (.v (.int .i64 v101))))]) (fun v101=>[(0,rd S W0),(127,ptT eTOp payQ 62 127 x6.2.1),(126,blk 126 [.v (.int .i64 x6.1),.nv 127] 58),(128,lrow 128 45 eTOp 4 x6.2.2)]) [(126,103),(127,104),(128,105)] fun n0 v101 H1=>xg 6 [] R<|K.lenL _ (lrowV_is eTOp_len (by decide)) g0 R R Tryz.underlying34 R<|xk 3 [] R<|M.c R H1 (fun h5 H1=>xg 5 [] R<|G.ent [(127,ptT eTOp payQ 62 127 x6.2.1)] [(129,pkT 127 62 x6.2.1 79 4 (pQ x6.2.1) ([]:List (Nat×List TPart)))] [] (pk_open 129) ⟨R,trivial⟩ R R R R<|M.b H1 fun x10 hx10 H1=>M.b H1 fun x11 hx11 H1=>M.b H1 fun x12 hx12 H1=>M.e H1 fun h6 H1=>M.b H1 fun x13 hx13 H1=>M.b H1 fun x14 hx14 H1=>M.b H1 fun x15 hx15 H1=>xg 5 [] R<|K.idxL _ _ (lrowV_is eTOp_len (by decide)) (atL_get hx10) (atL_nn hx10) g0 R R R Tryz.underlying34 el34.size_run R<|K.fieldL Y _ _ 0 0 (lrowV_is eTOp_len (by decide)) (atL_get hx10) g0 R R t45 R R R R<|K.load1L Y _ _ 0 (lrowV_is eTOp_len (by decide)) (atL_get hx10) g0 R R t3 R R<|k0 (SCon.view (rows:=([]:List (Nat×List TPart))) (Q:=(pQ x6.2.1)) 129 R (fun A hL_0=>past_Past_Ahead_con 19 126 127 130 R hL_0 hx11) R) R<|xd 3 [] R<|K.idxL _ _ (lrowV_is eTOp_len (by decide)) (atL_get hx12) (atL_nn hx12) g0 R R R Tryz.underlying34 el34.size_run R<|K.fieldL Y _ _ 0 0 (lrowV_is eTOp_len (by decide)) (atL_get hx12) g0 R R t45 R R R R<|K.load1L Y _ _ 0 (lrowV_is eTOp_len (by decide)) (atL_get hx12) g0 R R t3 R R<|k0 (SCon.view (rows:=[(130,x11.1.parts)]) (Q:=x11.2) 129 (by simp only [List.all_cons,List.all_nil,h6,Bool.and_self]) (fun A hL_0=>past_Past_At_con 19 126 127 131 R hL_0 hx13) R) R<|k0 (SCon.views (k:=131) (R1:=[(130,x11.1.parts)]) (R2:=[]) (parts:=x13.1.parts) (args:=fun v=>[.a (.agg [.v v])]) 129 19 (fun A S W0 v hL_9 hL_v=>fuse_Views_Items_con 19 132 R hL_9 hL_v hx14) R eTPart_len (fun β=>R) R) R<|K.cV (cf 25 R) [132] (fun β w S2 h=>SCon.viewsR (k:=130) (R1:=[]) (R2:=[(131,x13.1.parts)]) (parts:=x11.1.parts) (args':=[.a (.agg [.nv 130]),SV.raw ((lrowV 132 28 eTItem 2 x14).s.den β)]) (args:=fun v=>[.a (.agg [.v v]),SV.raw ((lrowV 132 28 eTItem 2 x14).s.den β)]) 129 19 (fun A S W0 v hL_9 hL_v m_=>Lw13_Same_con 19 hL_9 hL_v (m_ (la 0 R eTItem_len R h)) hx15) R eTPart_len (fun β=>R) R) g0 (fun _=>R) R R R<|xd 1 [] R<|M.n<|xa 1 [] R<|M.c R H1 (fun h7 H1=>xg 11 [] R<|by cases H1;exact have H0:=sum_l H0;At.ent [(129,pkT 127 62 x6.2.1 79 4 x13.2 [(130,x11.1.parts),(131,x13.1.parts)])] [(127,ptT eTOp payQ 62 127 x6.2.1)] [] (pk_close 129) ⟨R,trivial⟩ R R R R<|by cases H0;exact ZR []) (fun h7 H1=>xg 8 [] R<|At.ent [(129,pkT 127 62 x6.2.1 79 4 x13.2 [(130,x11.1.parts),(131,x13.1.parts)])] [(127,ptT eTOp payQ 62 127 x6.2.1)] [] (pk_close 129) ⟨R,trivial⟩ R R R R<|M.ag H1 [])) (fun h5 H1=>xg 4 [] R<|M.jd ⟨(),oi H1⟩ [(117,126),(118,127),(119,128)]))<|by rintro ⟨w9,rfl⟩;exact have H0:=sum_r H0;xg 1 [] R<|M.b H0 fun x16 hx16 H0=>xg 2 [] R<|kR (past_Past_Len_con 117 118 hx16) R<|xk 1 [] R<|K.lenL _ (lrowV_is eTOp_len (by decide)) g0 R R Tryz.underlying34 R<|xk 5 [] R<|by cases H0;exact ZR []
end Go.Proofs.YtgjbibabegabnaaGreat
namespace Go.Proofs.YtgjbibabegabnaaGreat.PQ
structure Cert (n:Nat) (G S:Nat→Prop) (lt:Nat→Nat→Prop) (H:Nat→Int):Prop where
  low : ∀ p,p≤n→0≤H p
  fin:H n=0
  two : ∀ i j,i<n→j<n→G i→S j→lt j i→∃ b,i<b∧b≤j∧H b=0
  free:0<H 0→∀ j,j<n→S j→∃ b,b≤j∧H b=0
structure More (n t:Nat) (G S:Nat→Prop) (lt:Nat→Nat→Prop) (H:Nat→Int):Prop where
  le:t≤n
  low : ∀ p,p≤n→(if p<t then 0 else 1)≤H p
  fin:H n=1
  two : ∀ i j,i<n→j<n→i+1≠t→G i→S j→lt j i→∃ b,i<b∧b≤j∧H b=if b<t then 0 else 1
  free:0<H 0→∀ j,j<n→S j→∃ b,b≤j∧H b=if b<t then 0 else 1
theorem More.none {n t:Nat} {G S:Nat→Prop} {lt:Nat→Nat→Prop} {H:Nat→Int} (h:More n t G S lt H) (hb : ∀ b,b<t→H b≠0):Cert n G S lt (fun p=>H p - 1):=by
  have pos : ∀ p,p≤n→1≤H p:=fun p hp=>by
    have:=h.low p hp
    by_cases e:p<t
    · rw [if_pos e] at this;have:=hb p e;omega
    · rw [if_neg e] at this;exact this
  have lv : ∀ b,(H b=if b<t then 0 else 1)→H b - 1=0∧t≤b:=fun b hb'=>by
    by_cases e:b<t
    · rw [if_pos e] at hb';exact absurd hb' (hb b e)
    · rw [if_neg e] at hb';omega
  refine ⟨fun p hp=>by have:=pos p hp;show 0≤H p - 1;omega,by show H n - 1=0;rw [h.fin];rfl,fun i j hi hj hg hs hl=>?_,fun _ j hj hs=>?_⟩
  · by_cases e:i+1=t
    · obtain ⟨b,h1,h2⟩:=h.free (by have:=pos 0 (Nat.zero_le _);omega) j hj hs
      have:=lv b h2
      exact ⟨b,by omega,h1,this.1⟩
    · obtain ⟨b,h1,h2,h3⟩:=h.two i j hi hj e hg hs hl
      exact ⟨b,h1,h2,(lv b h3).1⟩
  · obtain ⟨b,h1,h2⟩:=h.free (by have:=pos 0 (Nat.zero_le _);omega) j hj hs
    exact ⟨b,h1,(lv b h2).1⟩
theorem More.some {n t : Nat} {G S : Nat → Prop} {lt : Nat → Nat → Prop} {H : Nat → Int} (tr : ∀ a b c, lt a b → lt b c → lt a c) (ir : ∀ a, ¬ lt a a) (h : More n t G S lt H) {b z : Nat} (hb : b < t) (hb0 : H b = 0) (hb1 : ∀ q, b < q → q < t → H q ≠ 0)
    (hz:b≤z) (hzn:z<n) (hzG:G z) (hzm : ∀ i,i<n→b≤i→G i→i=z∨lt i z) (hGS : ∀ i,G i→¬ S i) :
    Cert n (fun i=>G i∧i≠z) (fun i=>S i∨i=z) lt (fun p=>H p - if z<p then 1 else 0):=by
  have last : ∀ q,q<t→H q=0→q≤b:=fun q h1 h2=>Classical.byContradiction fun hn=>hb1 q (by omega) h1 h2
  refine ⟨fun p hp=>?_,?_,fun i j hi hj hg hs hl=>?_,fun h0 j hj hs=>?_⟩
  · have h1:=h.low p hp
    show 0≤H p - _
    by_cases e:z<p
    · rw [if_pos e]
      by_cases e':p<t
      · have:=hb1 p (by omega) e';rw [if_pos e'] at h1;omega
      · rw [if_neg e'] at h1;omega
    · rw [if_neg e];split at h1 <;> omega
  · show H n - _=0
    rw [if_pos hzn,h.fin];rfl
  · show ∃ c,i<c∧c≤j∧H c - (if z<c then 1 else 0)=0
    have hbr : ∀ c,z<c→(H c=if c<t then 0 else 1)→H c - (if z<c then 1 else 0)=0∧t≤c:=fun c h1 h2=>by
      by_cases e:c<t
      · rw [if_pos e] at h2;have:=last c e h2;omega
      · rw [if_neg e] at h2;rw [if_pos h1];omega
    have b0:H b - (if z<b then 1 else 0)=0:=by rw [if_neg (by omega)];omega
    have zj:z+1≠t→∀ j,j<n→S j→lt j z→∃ c,z<c∧c≤j∧t≤c∧H c - (if z<c then 1 else 0)=0:=fun e j hj hs hl=>by
      obtain ⟨c,h1,h2,h3⟩:=h.two z j hzn hj e hzG hs hl
      have:=hbr c h1 h3;exact ⟨c,h1,h2,this.2,this.1⟩
    rcases hs with hs | rfl
    · by_cases e:i+1=t
      · have hiz:lt i z:=(hzm i hi (by omega) hg.1).resolve_left hg.2
        obtain ⟨c,h1,h2,h3,h4⟩:=zj (fun e'=>hg.2 (by omega)) j hj hs (tr _ _ _ hl hiz)
        exact ⟨c,by omega,h2,h4⟩
      · obtain ⟨c,h1,h2,h3⟩:=h.two i j hi hj e hg.1 hs hl
        by_cases e1:z<c
        · exact ⟨c,h1,h2,(hbr c e1 h3).1⟩
        · by_cases e2:c<t
          · rw [if_pos e2] at h3;exact ⟨c,h1,h2,by rw [if_neg e1];omega⟩
          · by_cases e3:b≤i
            · have hiz:lt i z:=(hzm i hi e3 hg.1).resolve_left hg.2
              obtain ⟨c',h1',h2',h3',h4'⟩:=zj (by omega) j hj hs (tr _ _ _ hl hiz)
              exact ⟨c',by omega,h2',h4'⟩
            · exact ⟨b,by omega,by omega,b0⟩
    · by_cases e:b≤i
      · exact absurd (tr _ _ _ hl ((hzm i hi e hg.1).resolve_left hg.2)) (ir _)
      · exact ⟨b,by omega,hz,b0⟩
  · show ∃ c,c≤j∧H c - (if z<c then 1 else 0)=0
    have b0:H b - (if z<b then 1 else 0)=0:=by rw [if_neg (by omega)];omega
    have h0':0<H 0:=by have h0:0<H 0 - (if z<0 then 1 else 0):=h0;rw [if_neg (by omega)] at h0;omega
    rcases hs with hs | rfl
    · obtain ⟨c,h1,h2⟩:=h.free h0' j hj hs
      by_cases e1:z<c
      · by_cases e:c<t
        · rw [if_pos e] at h2;have:=last c e h2;omega
        · rw [if_neg e] at h2;exact ⟨c,h1,by rw [if_pos e1];omega⟩
      · by_cases e2:c<t
        · rw [if_pos e2] at h2;exact ⟨c,h1,by rw [if_neg e1];omega⟩
        · exact ⟨b,by omega,b0⟩
    · exact ⟨b,hz,b0⟩
structure Less (n t:Nat) (G S:Nat→Prop) (lt:Nat→Nat→Prop) (H:Nat→Int):Prop where
  le:t≤n
  low : ∀ p,p≤n→(if p<t then 0 else -1)≤H p
  fin:H n = -1
  two : ∀ i j,i<n→j<n→G i→S j→lt j i→∃ b,i<b∧b≤j∧H b=if b<t then 0 else -1
  free:0<H 0→∀ j,j<n→S j→∃ b,b≤j∧H b=if b<t then 0 else -1
theorem Less.none {n t : Nat} {G S : Nat → Prop} {lt : Nat → Nat → Prop} {H : Nat → Int} (h : Less n t G S lt H) {b : Nat} (hb : t ≤ b) (hbn : b ≤ n) (hb0 : H b = -1) (hb1 : ∀ q, t ≤ q → q < b → H q ≠ -1)
    (hS : ∀ j,j<b→¬ S j):Cert n G S lt (fun p=>H p+1):=by
  have lv : ∀ c j,S j→c≤j→(H c=if c<t then 0 else -1)→∃ c',c≤c'∧c'≤j∧H c'+1=0:=fun c j hs h1 h2=>by
    by_cases e:c<t
    · have:b≤j:=Classical.byContradiction fun hn=>hS j (by omega) hs
      exact ⟨b,by omega,this,by omega⟩
    · rw [if_neg e] at h2;exact ⟨c,Nat.le_refl _,h1,by omega⟩
  refine ⟨fun p hp=>?_,by show H n+1=0;rw [h.fin];rfl,fun i j hi hj hg hs hl=>?_,fun _ j hj hs=>?_⟩
  · have:=h.low p hp;show 0≤H p+1;split at this <;> omega
  · obtain ⟨c,h1,h2,h3⟩:=h.two i j hi hj hg hs hl
    obtain ⟨c',h4,h5,h6⟩:=lv c j hs h2 h3
    exact ⟨c',by omega,h5,h6⟩
  · have:b≤j:=Classical.byContradiction fun hn=>hS j (by omega) hs
    exact ⟨b,this,by show H b+1=0;omega⟩
theorem Less.some {n t : Nat} {G S : Nat → Prop} {lt : Nat → Nat → Prop} {H : Nat → Int} (tr : ∀ a b c, lt a b → lt b c → lt a c) (ir : ∀ a, ¬ lt a a) (h : Less n t G S lt H) {b z : Nat} (hb : t ≤ b) (hbn : b ≤ n) (hb0 : H b = -1) (hb1 : ∀ q, t ≤ q → q < b → H q ≠ -1)
    (hzb:z<b) (hzS:S z) (hzm : ∀ j,j<b→S j→j=z∨lt z j) :
    Cert n (fun i=>G i∨i=z) (fun i=>S i∧i≠z) lt (fun p=>H p+if z<p then 1 else 0):=by
  have low' : ∀ c,t≤c→H c = -1→H c+(if z<c then 1 else 0)=0:=fun c h1 h2=>by
    have:b≤c:=Classical.byContradiction fun hn=>hb1 c h1 (by omega) h2
    rw [if_pos (by omega)];omega
  have b0:=low' b hb hb0
  refine ⟨fun p hp=>?_,?_,fun i j hi hj hg hs hl=>?_,fun h0 j hj hs=>?_⟩
  · have h1:=h.low p hp
    show 0≤H p+_
    by_cases e:p<t
    · rw [if_pos e] at h1;split <;> omega
    · rw [if_neg e] at h1
      by_cases e':z<p
      · rw [if_pos e'];omega
      · have:=hb1 p (by omega) (by omega);rw [if_neg e'];omega
  · show H n+_=0
    rw [if_pos (by omega),h.fin];rfl
  · show ∃ c,i<c∧c≤j∧H c+(if z<c then 1 else 0)=0
    by_cases ei:i=z
    · subst ei
      have:b≤j:=Classical.byContradiction fun hn=>by
        rcases hzm j (by omega) hs.1 with e | e
        · exact hs.2 e
        · exact ir _ (tr _ _ _ hl e)
      exact ⟨b,hzb,this,b0⟩
    · have hg:=hg.resolve_right ei
      obtain ⟨c,h1,h2,h3⟩:=h.two i j hi hj hg hs.1 hl
      by_cases e:c<t
      · rw [if_pos e] at h3
        by_cases e1:z<c
        · by_cases e2:b≤j
          · exact ⟨b,by omega,e2,b0⟩
          · have hzj:=(hzm j (by omega) hs.1).resolve_left hs.2
            obtain ⟨c2,h4,h5,h6⟩:=h.two i z hi (by omega) hg hzS (tr _ _ _ hzj hl)
            rw [if_pos (by omega)] at h6
            exact ⟨c2,h4,by omega,by rw [if_neg (by omega)];omega⟩
        · exact ⟨c,h1,h2,by rw [if_neg e1];omega⟩
      · rw [if_neg e] at h3
        exact ⟨c,h1,h2,low' c (by omega) h3⟩
  · show ∃ c,c≤j∧H c+(if z<c then 1 else 0)=0
    have h0':0<H 0:=by have h0:0<H 0+(if z<0 then 1 else 0):=h0;rw [if_neg (by omega)] at h0;omega
    obtain ⟨c,h2,h3⟩:=h.free h0' j hj hs.1
    by_cases e:c<t
    · rw [if_pos e] at h3
      by_cases e1:z<c
      · by_cases e2:b≤j
        · exact ⟨b,e2,b0⟩
        · obtain ⟨c2,h5,h6⟩:=h.free h0' z (by omega) hzS
          rw [if_pos (by omega)] at h6
          exact ⟨c2,by omega,by rw [if_neg (by omega)];omega⟩
      · exact ⟨c,h2,by rw [if_neg e1];omega⟩
    · rw [if_neg e] at h3
      exact ⟨c,h2,low' c (by omega) h3⟩
def sh (a i:Nat):Nat:=if i<a then i else i+1
theorem sh_lt {a i:Nat} (h:i<a):sh a i=i:=if_pos h
theorem sh_ge {a i:Nat} (h:a≤i):sh a i=i+1:=if_neg (by omega)
theorem sh_cases (a i:Nat):(i<a∧sh a i=i)∨(a≤i∧sh a i=i+1):=by
  by_cases h:i<a
  · exact .inl ⟨h,sh_lt h⟩
  · exact .inr ⟨by omega,sh_ge (by omega)⟩
theorem sh_ex {a i:Nat} (h:i≠a) : ∃ q,i=sh a q:=by
  by_cases e:i<a
  · exact ⟨i,(sh_lt e).symm⟩
  · exact ⟨i - 1,by rw [sh_ge (by omega)];omega⟩
structure Ins (n a:Nat) (w:Int) (G1 S1:Nat→Prop) (lt1:Nat→Nat→Prop) (H1:Nat→Int) (G2 S2:Nat→Prop) (lt2:Nat→Nat→Prop) (H2:Nat→Int):Prop where
  le:a≤n
  g : ∀ i,G2 (sh a i)↔G1 i
  s : ∀ i,S2 (sh a i)↔S1 i
  l : ∀ i j,lt2 (sh a i) (sh a j)↔lt1 i j
  lo : ∀ p,p≤a→H2 p=H1 p
  hi : ∀ p,a≤p→H2 (p+1)=H1 p+w
section
variable {n a:Nat} {w:Int} {G1 S1:Nat→Prop} {lt1:Nat→Nat→Prop} {H1:Nat→Int} {G2 S2:Nat→Prop} {lt2:Nat→Nat→Prop} {H2:Nat→Int}
theorem Ins.up (h:Ins n a w G1 S1 lt1 H1 G2 S2 lt2 H2) {i j b:Nat} (h1:i<b) (h2:b≤j) (hb:H1 b=0) : ∃ c,sh a i<c∧c≤sh a j∧H2 c=if c<a+1 then 0 else w:=by
  have hi:=sh_cases a i
  have hj:=sh_cases a j
  by_cases e:b≤a
  · exact ⟨b,by omega,by omega,by rw [if_pos (by omega),h.lo b e,hb]⟩
  · exact ⟨b+1,by omega,by omega,by rw [if_neg (by omega),h.hi b (by omega),hb];omega⟩
theorem Ins.up0 (h:Ins n a w G1 S1 lt1 H1 G2 S2 lt2 H2) {j b:Nat} (h2:b≤j) (hb:H1 b=0) : ∃ c,c≤sh a j∧H2 c=if c<a+1 then 0 else w:=by
  have hj:=sh_cases a j
  by_cases e:b≤a
  · exact ⟨b,by omega,by rw [if_pos (by omega),h.lo b e,hb]⟩
  · exact ⟨b+1,by omega,by rw [if_neg (by omega),h.hi b (by omega),hb];omega⟩
theorem sh_bd {n a i:Nat} (ha:a≤n):sh a i<n+1↔i<n:=by
  have:=sh_cases a i;omega
theorem Ins.more (h:Ins n a 1 G1 S1 lt1 H1 G2 S2 lt2 H2) (hS : ¬ S2 a) (c:Cert n G1 S1 lt1 H1):More (n+1) (a+1) G2 S2 lt2 H2:=by
  have hle:=h.le
  have h0:=h.lo 0 (Nat.zero_le _)
  refine ⟨by omega,fun p hp=>?_,?_,fun i j hi hj hia hg hs hl=>?_,fun hf j hj hs=>?_⟩
  · by_cases e:p≤a
    · rw [if_pos (by omega),h.lo p e];exact c.low p (by omega)
    · rw [if_neg (by omega)]
      have:=h.hi (p - 1) (by omega);rw [show p - 1+1=p by omega] at this
      have:=c.low (p - 1) (by omega);omega
  · rw [h.hi n hle,c.fin];rfl
  · obtain ⟨i',rfl⟩:=sh_ex (a:=a) (i:=i) (by omega)
    obtain ⟨j',rfl⟩:=sh_ex (a:=a) (i:=j) (by rintro rfl;exact hS hs)
    obtain ⟨b,h1,h2,h3⟩:=c.two i' j' ((sh_bd hle).1 hi) ((sh_bd hle).1 hj) ((h.g _).1 hg) ((h.s _).1 hs) ((h.l _ _).1 hl)
    exact h.up h1 h2 h3
  · obtain ⟨j',rfl⟩:=sh_ex (a:=a) (i:=j) (by rintro rfl;exact hS hs)
    obtain ⟨b,h1,h2⟩:=c.free (by omega) j' ((sh_bd hle).1 hj) ((h.s _).1 hs)
    exact h.up0 h1 h2
theorem Ins.less (h:Ins n a (-1) G1 S1 lt1 H1 G2 S2 lt2 H2) (hG : ¬ G2 a) (hS : ¬ S2 a) (c:Cert n G1 S1 lt1 H1):Less (n+1) (a+1) G2 S2 lt2 H2:=by
  have hle:=h.le
  have h0:=h.lo 0 (Nat.zero_le _)
  refine ⟨by omega,fun p hp=>?_,?_,fun i j hi hj hg hs hl=>?_,fun hf j hj hs=>?_⟩
  · by_cases e:p≤a
    · rw [if_pos (by omega),h.lo p e];exact c.low p (by omega)
    · rw [if_neg (by omega)]
      have:=h.hi (p - 1) (by omega);rw [show p - 1+1=p by omega] at this
      have:=c.low (p - 1) (by omega);omega
  · rw [h.hi n hle,c.fin];rfl
  · obtain ⟨i',rfl⟩:=sh_ex (a:=a) (i:=i) (by rintro rfl;exact hG hg)
    obtain ⟨j',rfl⟩:=sh_ex (a:=a) (i:=j) (by rintro rfl;exact hS hs)
    obtain ⟨b,h1,h2,h3⟩:=c.two i' j' ((sh_bd hle).1 hi) ((sh_bd hle).1 hj) ((h.g _).1 hg) ((h.s _).1 hs) ((h.l _ _).1 hl)
    exact h.up h1 h2 h3
  · obtain ⟨j',rfl⟩:=sh_ex (a:=a) (i:=j) (by rintro rfl;exact hS hs)
    obtain ⟨b,h1,h2⟩:=c.free (by omega) j' ((sh_bd hle).1 hj) ((h.s _).1 hs)
    exact h.up0 h1 h2
theorem Ins.revD (h:Ins n a (-1) G1 S1 lt1 H1 G2 S2 lt2 H2) (c:Cert (n+1) G2 S2 lt2 H2):More n a G1 S1 lt1 H1:=by
  have hle:=h.le
  have h0:=h.lo 0 (Nat.zero_le _)
  have ha:H2 a≠0:=fun e=>by
    have h1:=h.hi a (Nat.le_refl _);have h2:=h.lo a (Nat.le_refl _);have h3:=c.low (a+1) (by omega);omega
  have down : ∀ b,H2 b=0→(b<a∧H1 b=if b<a then 0 else 1)∨(a+1≤b∧H1 (b - 1)=if b - 1<a then 0 else 1):=fun b hb=>by
    by_cases e:b<a
    · exact .inl ⟨e,by rw [if_pos e,← h.lo b (by omega),hb]⟩
    · by_cases e':b=a
      · subst e';exact absurd hb ha
      · have:=h.hi (b - 1) (by omega);rw [show b - 1+1=b by omega] at this
        exact .inr ⟨by omega,by rw [if_neg (by omega)];omega⟩
  refine ⟨hle,fun p hp=>?_,?_,fun i j hi hj _ hg hs hl=>?_,fun hf j hj hs=>?_⟩
  · by_cases e:p<a
    · rw [if_pos e,← h.lo p (by omega)];exact c.low p (by omega)
    · rw [if_neg e]
      have:=h.hi p (by omega);have:=c.low (p+1) (by omega);omega
  · have:=h.hi n hle;rw [c.fin] at this;omega
  · obtain ⟨b,h1,h2,h3⟩:=c.two _ _ ((sh_bd hle).2 hi) ((sh_bd hle).2 hj) ((h.g _).2 hg) ((h.s _).2 hs) ((h.l _ _).2 hl)
    have:=sh_cases a i;have:=sh_cases a j
    rcases down b h3 with ⟨e1,e2⟩ | ⟨e1,e2⟩
    · exact ⟨b,by omega,by omega,e2⟩
    · exact ⟨b - 1,by omega,by omega,e2⟩
  · obtain ⟨b,h2,h3⟩:=c.free (by omega) _ ((sh_bd hle).2 hj) ((h.s _).2 hs)
    have:=sh_cases a j
    rcases down b h3 with ⟨e1,e2⟩ | ⟨e1,e2⟩
    · exact ⟨b,by omega,e2⟩
    · exact ⟨b - 1,by omega,e2⟩
theorem Ins.revG (h:Ins n a 1 G1 S1 lt1 H1 G2 S2 lt2 H2) (c:Cert (n+1) G2 S2 lt2 H2):Less n (a+1) G1 S1 lt1 H1:=by
  have hle:=h.le
  have h0:=h.lo 0 (Nat.zero_le _)
  have h1a:=h.hi a (Nat.le_refl _)
  have h2a:=h.lo a (Nat.le_refl _)
  have h3a:=c.low a (by omega)
  have han:a+1≤n:=Classical.byContradiction fun hn=>by
    have:a=n:=by omega
    subst this;rw [c.fin] at h1a;omega
  have down : ∀ b,H2 b=0→(b≤a∧H1 b=if b<a+1 then 0 else -1)∨(a+2≤b∧H1 (b - 1)=if b - 1<a+1 then 0 else -1):=fun b hb=>by
    by_cases e:b≤a
    · exact .inl ⟨e,by rw [if_pos (by omega),← h.lo b e,hb]⟩
    · by_cases e':b=a+1
      · subst e';omega
      · have:=h.hi (b - 1) (by omega);rw [show b - 1+1=b by omega] at this
        exact .inr ⟨by omega,by rw [if_neg (by omega)];omega⟩
  refine ⟨han,fun p hp=>?_,?_,fun i j hi hj hg hs hl=>?_,fun hf j hj hs=>?_⟩
  · by_cases e:p<a+1
    · rw [if_pos e,← h.lo p (by omega)];exact c.low p (by omega)
    · rw [if_neg e]
      have:=h.hi p (by omega);have:=c.low (p+1) (by omega);omega
  · have:=h.hi n hle;rw [c.fin] at this;omega
  · obtain ⟨b,h1,h2,h3⟩:=c.two _ _ ((sh_bd hle).2 hi) ((sh_bd hle).2 hj) ((h.g _).2 hg) ((h.s _).2 hs) ((h.l _ _).2 hl)
    have:=sh_cases a i;have:=sh_cases a j
    rcases down b h3 with ⟨e1,e2⟩ | ⟨e1,e2⟩
    · exact ⟨b,by omega,by omega,e2⟩
    · exact ⟨b - 1,by omega,by omega,e2⟩
  · obtain ⟨b,h2,h3⟩:=c.free (by omega) _ ((sh_bd hle).2 hj) ((h.s _).2 hs)
    have:=sh_cases a j
    rcases down b h3 with ⟨e1,e2⟩ | ⟨e1,e2⟩
    · exact ⟨b,by omega,e2⟩
    · exact ⟨b - 1,by omega,e2⟩
theorem Ins.revS (h:Ins n a 0 G1 S1 lt1 H1 G2 S2 lt2 H2) (c:Cert (n+1) G2 S2 lt2 H2):Cert n G1 S1 lt1 H1:=by
  have hle:=h.le
  have h0:=h.lo 0 (Nat.zero_le _)
  have down : ∀ b,H2 b=0→(b≤a∧H1 b=0)∨(a+1≤b∧H1 (b - 1)=0):=fun b hb=>by
    by_cases e:b≤a
    · exact .inl ⟨e,by rw [← h.lo b e,hb]⟩
    · have:=h.hi (b - 1) (by omega);rw [show b - 1+1=b by omega] at this
      exact .inr ⟨by omega,by omega⟩
  refine ⟨fun p hp=>?_,?_,fun i j hi hj hg hs hl=>?_,fun hf j hj hs=>?_⟩
  · by_cases e:p≤a
    · rw [← h.lo p e];exact c.low p (by omega)
    · have:=h.hi p (by omega);have:=c.low (p+1) (by omega);omega
  · have:=h.hi n hle;rw [c.fin] at this;omega
  · obtain ⟨b,h1,h2,h3⟩:=c.two _ _ ((sh_bd hle).2 hi) ((sh_bd hle).2 hj) ((h.g _).2 hg) ((h.s _).2 hs) ((h.l _ _).2 hl)
    have:=sh_cases a i;have:=sh_cases a j
    rcases down b h3 with ⟨e1,e2⟩ | ⟨e1,e2⟩
    · exact ⟨b,by omega,by omega,e2⟩
    · exact ⟨b - 1,by omega,by omega,e2⟩
  · obtain ⟨b,h2,h3⟩:=c.free (by omega) _ ((sh_bd hle).2 hj) ((h.s _).2 hs)
    have:=sh_cases a j
    rcases down b h3 with ⟨e1,e2⟩ | ⟨e1,e2⟩
    · exact ⟨b,by omega,e2⟩
    · exact ⟨b - 1,by omega,e2⟩
end
end Go.Proofs.YtgjbibabegabnaaGreat.PQ
namespace Go.Proofs.YtgjbibabegabnaaGreat
open Go Go.Proofs.YtgjbibabegabnaaGreat.Sx
def lowF:List Int→Int
  | [] => 0
  | [x] => x
  | x :: y :: l => min x (x + lowF (y :: l))
def tideF (ns:List Int):TTide:=⟨ns.length,ns.sum,lowF ns⟩
theorem lowF_append : ∀ (a b:List Int),a≠[]→b≠[]→lowF (a++b)=min (lowF a) (a.sum+lowF b)
  | [x], b, _, hb => by
    cases b with
    | nil => exact absurd rfl hb
    | cons y l => simp [lowF]
  | x :: y :: l, b, _, hb => by
    have ih:=lowF_append (y::l) b (by simp) hb
    have e:lowF (x::y::l++b)=min x (x+lowF (y::l++b)):=by simp [lowF]
    rw [e,ih]
    have e2:lowF (x::y::l)=min x (x+lowF (y::l)):=rfl
    have e3:(x::y::l).sum=x+(y::l).sum:=by simp
    rw [e2,e3]
    omega
  | [], _, h, _ => absurd rfl h
def smallN (ns:List Int):Prop:=∀ x∈ns,-1099511627776≤x∧x≤1099511627776
theorem smallN.append {a b:List Int} (ha:smallN a) (hb:smallN b):smallN (a++b):=fun x hx=>(List.mem_append.1 hx).elim (ha x) (hb x)
theorem smallN.left {a b:List Int} (h:smallN (a++b)):smallN a:=fun x hx=>h x (List.mem_append_left _ hx)
theorem smallN.right {a b:List Int} (h:smallN (a++b)):smallN b:=fun x hx=>h x (List.mem_append_right _ hx)
theorem smallN.take {a:List Int} (h:smallN a) (i:Nat):smallN (a.take i):=fun x hx=>h x (List.mem_of_mem_take hx)
theorem sum_bound : ∀ {ns:List Int},smallN ns→-1099511627776*(ns.length:Int)≤ns.sum∧ns.sum≤1099511627776*(ns.length:Int)
  | [], _ => by simp
  | x :: l, h => by
    have h1:=h x List.mem_cons_self
    have h2:=sum_bound (ns:=l) (fun y hy=>h y (List.mem_cons_of_mem _ hy))
    simp only [List.sum_cons,List.length_cons]
    omega
theorem low_bound : ∀ {ns:List Int},smallN ns→-1099511627776*(ns.length:Int)≤lowF ns∧lowF ns≤1099511627776*(ns.length:Int)
  | [], _ => by simp [lowF]
  | [x], h => by have := h x List.mem_cons_self; simp [lowF]; omega
  | x :: y :: l, h => by
    have h1:=h x List.mem_cons_self
    have h2:=low_bound (ns:=y::l) (fun z hz=>h z (List.mem_cons_of_mem _ hz))
    have e:lowF (x::y::l)=min x (x+lowF (y::l)):=rfl
    simp only [List.length_cons] at h2 ⊢
    rw [e]
    omega
theorem tidePlus_eq (k:Nat) {a b:List Int} (h:smallN (a++b)) (hl:(a++b).length<1000000):tide_Tide_Plus.f k (tideF a) (tideF b)=some (tideF (a++b)):=by
  have ha:=sum_bound h.left
  have hb:=sum_bound h.right
  have la:=low_bound h.left
  have lb:=low_bound h.right
  simp only [List.length_append] at hl
  unfold tide_Tide_Plus.f
  by_cases h1:a=[]
  · subst h1;simp [tideF]
  · have p1:a.length≠0:=fun e=>h1 (List.eq_nil_of_length_eq_zero e)
    by_cases h2:b=[]
    · subst h2
      have:((tideF a).n == 0)=false:=by simp [tideF];exact h1
      simp only [this,cond_false];simp [tideF]
    · have p2:b.length≠0:=fun e=>h2 (List.eq_nil_of_length_eq_zero e)
      have e1:((a.length:Int) == 0)=false:=by simp;exact h1
      have e2:((b.length:Int) == 0)=false:=by simp;exact h2
      simp only [tideF,e1,e2,cond_false]
      rw [w64_id (by omega) (by omega),w64_id (by omega) (by omega),w64_id (by omega) (by omega),lowF_append a b h1 h2,List.sum_append,List.length_append]
      have e:gmin (lowF a) (a.sum+lowF b)=min (lowF a) (a.sum+lowF b):=by unfold gmin;split <;> omega
      rw [e,Int.natCast_add]
theorem tideOf_loop (k:Nat) (l:List Int) (hs:smallN l) (hl:l.length<1000000) : ∀ (d i n:Nat),i+d=l.length→d<n→tide_Of.l0 k l n (tideF (l.take i),(i:Int))=some (tideF l)
  | d, i, 0, _, h => by omega
  | 0, i, n + 1, hi, _ => by
    simp only [tide_Of.l0]
    rw [dec_nlt (by omega),List.take_of_length_le (by omega)];rfl
  | d + 1, i, n + 1, hi, hn => by
    obtain ⟨x,hx,hdr⟩:=drop_cons (l:=l) (i:=i) (by omega)
    have ht:l.take (i+1)=l.take i++[x]:=by rw [List.take_add_one,hx];rfl
    have e1:(⟨1,x,x⟩:TTide)=tideF [x]:=by simp [tideF,lowF]
    simp only [tide_Of.l0]
    rw [dec_lt (by omega)]
    simp only [cond_true,atL_nat hx,Option.bind_some,e1]
    rw [tidePlus_eq k (by rw [← ht];exact hs.take _) (by rw [← ht];simp;omega)]
    simp only [Option.bind_some,w64_succ (i:=i) (by omega),← ht]
    exact tideOf_loop k l hs hl d (i+1) n (by omega) (by omega)
theorem tideOf_eq (k:Nat) {l:List Int} (hs:smallN l) (hl:l.length<1000000) (hk:l.length<k):tide_Of.f k l=some (tideF l):=by
  have:=tideOf_loop k l hs hl l.length 0 k (by omega) hk
  have e:tide_Of.l0 k l k (zTTide,0)=some (tideF l):=this
  unfold tide_Of.f;rw [e];rfl
end Go.Proofs.YtgjbibabegabnaaGreat
namespace Go.Proofs.YtgjbibabegabnaaGreat
open Go Go.Proofs.YtgjbibabegabnaaGreat.Sx
def IsMax (xs:List TItem) (t:TTook):Prop:=(xs=[]∧t=zTTook)∨(t.found=true∧t.item∈xs∧∀ y∈xs,ile y t.item)
def IsMin (xs:List TItem) (t:TTook):Prop:=(xs=[]∧t=zTTook)∨(t.found=true∧t.item∈xs∧∀ y∈xs,ile t.item y)
theorem IsMax.nil:IsMax [] zTTook:=.inl ⟨rfl,rfl⟩
theorem IsMin.nil:IsMin [] zTTook:=.inl ⟨rfl,rfl⟩
theorem IsMax.one (x:TItem):IsMax [x] ⟨true,x⟩:=.inr ⟨rfl,by simp,fun y hy=>by simp at hy;subst hy;exact ile_refl _⟩
theorem IsMin.one (x:TItem):IsMin [x] ⟨true,x⟩:=.inr ⟨rfl,by simp,fun y hy=>by simp at hy;subst hy;exact ile_refl _⟩
theorem isgn_lt {a b:TItem}:isgn a b<0↔ilt a b:=by
  unfold isgn
  by_cases h1:ilt a b
  · simp [h1]
  · by_cases h2:ilt b a <;> simp [h1,h2]
theorem isgn_gt {a b:TItem}:isgn a b>0↔ilt b a:=by
  unfold isgn
  by_cases h1:ilt a b
  · have : ¬ ilt b a:=fun h=>ilt_irrefl a (ilt_trans_le h1 (ilt_ile h))
    simp [h1,this]
  · by_cases h2:ilt b a <;> simp [h1,h2]
theorem isgn_cases (a b:TItem):isgn a b = -1∨isgn a b=0∨isgn a b=1:=by
  unfold isgn;split
  · exact .inl rfl
  · split
    · exact .inr (.inr rfl)
    · exact .inr (.inl rfl)
theorem betterMax (k:Nat) (hk:3≤k) {xs ys:List TItem} {a b:TTook} (ha:IsMax xs a) (hb:IsMax ys b) : ∃ c,wave_better.f k (-1) a b=some c∧IsMax (xs++ys) c:=by
  unfold wave_better.f
  rcases ha with ⟨rfl,rfl⟩ | ⟨h1,h2,h3⟩
  · exact ⟨b,rfl,hb⟩
  · simp only [h1,Bool.not_true,cond_false]
    rcases hb with ⟨rfl,rfl⟩ | ⟨g1,g2,g3⟩
    · exact ⟨a,rfl,.inr ⟨h1,by simpa using h2,by simpa using h3⟩⟩
    · simp only [g1,cond_true,itemCompare_eq k hk,Option.bind_some]
      have e:w64 (-1*isgn b.item a.item) = -1*isgn b.item a.item:=by rcases isgn_cases b.item a.item with h | h | h <;> rw [h] <;> rfl
      rw [e]
      by_cases hc:isgn b.item a.item>0
      · have:decide (-1*isgn b.item a.item<0)=true:=by simp;omega
        rw [this]
        have hlt:=isgn_gt.1 hc
        refine ⟨b,rfl,.inr ⟨g1,List.mem_append_right _ g2,fun y hy=>?_⟩⟩
        rcases List.mem_append.1 hy with hy | hy
        · exact ile_trans (h3 y hy) (ilt_ile hlt)
        · exact g3 y hy
      · have:decide (-1*isgn b.item a.item<0)=false:=by simp;omega
        rw [this]
        have hle:ile b.item a.item:=not_ilt.1 (fun h=>hc (isgn_gt.2 h))
        refine ⟨a,rfl,.inr ⟨h1,List.mem_append_left _ h2,fun y hy=>?_⟩⟩
        rcases List.mem_append.1 hy with hy | hy
        · exact h3 y hy
        · exact ile_trans (g3 y hy) hle
theorem betterMin (k:Nat) (hk:3≤k) {xs ys:List TItem} {a b:TTook} (ha:IsMin xs a) (hb:IsMin ys b) : ∃ c,wave_better.f k 1 a b=some c∧IsMin (xs++ys) c:=by
  unfold wave_better.f
  rcases ha with ⟨rfl,rfl⟩ | ⟨h1,h2,h3⟩
  · exact ⟨b,rfl,hb⟩
  · simp only [h1,Bool.not_true,cond_false]
    rcases hb with ⟨rfl,rfl⟩ | ⟨g1,g2,g3⟩
    · exact ⟨a,rfl,.inr ⟨h1,by simpa using h2,by simpa using h3⟩⟩
    · simp only [g1,cond_true,itemCompare_eq k hk,Option.bind_some]
      have e:w64 (1*isgn b.item a.item)=isgn b.item a.item:=by rcases isgn_cases b.item a.item with h | h | h <;> rw [h] <;> rfl
      rw [e]
      by_cases hc:isgn b.item a.item<0
      · have:decide (isgn b.item a.item<0)=true:=by simpa using hc
        rw [this]
        have hlt:=isgn_lt.1 hc
        refine ⟨b,rfl,.inr ⟨g1,List.mem_append_right _ g2,fun y hy=>?_⟩⟩
        rcases List.mem_append.1 hy with hy | hy
        · exact ile_trans (ilt_ile hlt) (h3 y hy)
        · exact g3 y hy
      · have:decide (isgn b.item a.item<0)=false:=by simpa using hc
        rw [this]
        have hle:ile a.item b.item:=not_ilt.1 (fun h=>hc (isgn_lt.2 h))
        refine ⟨a,rfl,.inr ⟨h1,List.mem_append_left _ h2,fun y hy=>?_⟩⟩
        rcases List.mem_append.1 hy with hy | hy
        · exact h3 y hy
        · exact ile_trans hle (g3 y hy)
def mcnt (m:TMark):Int:=if m.op.insert then 1 else -1
def mwt (m:TMark):Int:=if m.op.insert then (if m.here then 0 else 1) else -1
def dels (l:List TMark):List TMark:=l.filter (fun m=>!m.op.insert)
def frees (l:List TMark):List TMark:=l.filter (fun m=>!m.op.insert && !m.took.found)
def tookI (l:List TMark):List TItem:=(l.filter (fun m=>!m.op.insert&&m.took.found)).map (·.took.item)
def goneI (l:List TMark):List TItem:=(l.filter (fun m=>m.op.insert && !m.here)).map (·.op.item)
def hereI (l:List TMark):List TItem:=(l.filter (fun m=>m.op.insert&&m.here)).map (·.op.item)
structure IsSwell (s:TSwell) (l:List TMark):Prop where
  count:s.count=tideF (l.map mcnt)
  weight:s.weight=tideF (l.map mwt)
  deletes:s.deletes=((dels l).length:Int)
  free:s.free=((frees l).length:Int)
  most : ∃ t,IsMax (tookI l) t∧s.most=t.item
  gone:IsMax (goneI l) s.gone
  least:IsMin (hereI l) s.least
theorem IsSwell.nil:IsSwell zTSwell []:=⟨rfl,rfl,rfl,rfl,⟨_,IsMax.nil,rfl⟩,IsMax.nil,IsMin.nil⟩
theorem small_cnt (l:List TMark):smallN (l.map mcnt):=by
  intro x hx
  obtain ⟨m,_,rfl⟩:=List.mem_map.1 hx
  unfold mcnt;split <;> omega
theorem small_wt (l:List TMark):smallN (l.map mwt):=by
  intro x hx
  obtain ⟨m,_,rfl⟩:=List.mem_map.1 hx
  unfold mwt
  split
  · split <;> omega
  · omega
theorem dels_len (l:List TMark):(dels l).length=(frees l).length+(tookI l).length:=by
  induction l with
  | nil => rfl
  | cons m l ih =>
    unfold dels frees tookI at *
    cases h1:m.op.insert <;> cases h2:m.took.found <;> simp [List.filter_cons,h1,h2] at ih ⊢ <;> omega
theorem taken_max (k:Nat) {s:TSwell} {l:List TMark} (h:IsSwell s l) : ∃ t,wave_Swell_taken.f k s=some t∧IsMax (tookI l) t:=by
  obtain ⟨a,ha,ha'⟩:=h.most
  have hl:=dels_len l
  unfold wave_Swell_taken.f
  rw [h.deletes,h.free]
  by_cases h0:tookI l=[]
  · have:(((dels l).length:Int) == ((frees l).length:Int))=true:=by rw [hl,h0];simp
    rw [this];exact ⟨_,rfl,.inl ⟨h0,rfl⟩⟩
  · have hp:(tookI l).length≠0:=fun e=>h0 (List.eq_nil_of_length_eq_zero e)
    have:(((dels l).length:Int) == ((frees l).length:Int))=false:=by simp;omega
    rw [this]
    refine ⟨_,rfl,?_⟩
    rcases ha with ⟨h1,_⟩ | ⟨h1,h2,h3⟩
    · exact absurd h1 h0
    · rw [ha'];exact .inr ⟨rfl,h2,h3⟩
theorem swellPlus (k:Nat) (hk:3≤k) {s t:TSwell} {l r:List TMark} (h:IsSwell s l) (g:IsSwell t r) (hl:(l++r).length<1000000) : ∃ c,wave_Swell_Plus.f k s t=some c∧IsSwell c (l++r):=by
  obtain ⟨a,a1,a2⟩:=taken_max k h
  obtain ⟨b,b1,b2⟩:=taken_max k g
  obtain ⟨x5,c1,c2⟩:=betterMax k hk a2 b2
  obtain ⟨x6,d1,d2⟩:=betterMax k hk h.gone g.gone
  obtain ⟨x7,e1,e2⟩:=betterMin k hk h.least g.least
  have q1:(dels l).length≤l.length:=List.length_filter_le _ _
  have q2:(dels r).length≤r.length:=List.length_filter_le _ _
  have q3:(frees l).length≤l.length:=List.length_filter_le _ _
  have q4:(frees r).length≤r.length:=List.length_filter_le _ _
  rw [List.length_append] at hl
  unfold wave_Swell_Plus.f
  rw [h.count,g.count,h.weight,g.weight,tidePlus_eq k (by rw [← List.map_append];exact small_cnt _) (by simp;omega),tidePlus_eq k (by rw [← List.map_append];exact small_wt _) (by simp;omega),a1,b1]
  simp only [Option.bind_some,c1,d1,e1]
  refine ⟨_,rfl,?_⟩
  constructor
  · show tideF _=_;rw [List.map_append]
  · show tideF _=_;rw [List.map_append]
  · show w64 _=_;rw [h.deletes,g.deletes,w64_id (by omega) (by omega)];simp [dels]
  · show w64 _=_;rw [h.free,g.free,w64_id (by omega) (by omega)];simp [frees]
  · refine ⟨x5,?_,rfl⟩;simpa [tookI] using c2
  · simpa [goneI] using d2
  · simpa [hereI] using e2
theorem smallN1 {x:Int} (h : -1099511627776≤x∧x≤1099511627776):smallN [x]:=fun y hy=>by simp at hy;subst hy;exact h
theorem markSum (k:Nat) (hk:3≤k) (m:TMark) : ∃ s,wave_Mark_Sum.f k m=some s∧IsSwell s [m]:=by
  have t1:tide_Of.f k [1]=some (tideF [1]):=tideOf_eq k (smallN1 (by omega)) (by simp) (by simp;omega)
  have t0:tide_Of.f k [0]=some (tideF [0]):=tideOf_eq k (smallN1 (by omega)) (by simp) (by simp;omega)
  have tm:tide_Of.f k [-1]=some (tideF [-1]):=tideOf_eq k (smallN1 (by omega)) (by simp) (by simp;omega)
  unfold wave_Mark_Sum.f
  cases h1:m.op.insert
  · cases h2:m.took.found
    · simp only [cond_false,Option.bind_some,Sum.elim_inr,tm]
      exact ⟨_,rfl,by simp [mcnt,h1],by simp [mwt,h1],by simp [dels,h1],by simp [frees,h1,h2],⟨_,by simp [tookI,h1,h2];exact IsMax.nil,rfl⟩,by simp [goneI,h1];exact IsMax.nil,by simp [hereI,h1];exact IsMin.nil⟩
    · simp only [cond_false,cond_true,Option.bind_some,Sum.elim_inr,tm]
      exact ⟨_,rfl,by simp [mcnt,h1],by simp [mwt,h1],by simp [dels,h1],by simp [frees,h1,h2],⟨⟨true,m.took.item⟩,by simp [tookI,h1,h2];exact IsMax.one _,rfl⟩,by simp [goneI,h1];exact IsMax.nil,by simp [hereI,h1];exact IsMin.nil⟩
  · cases h2:m.here
    · simp only [cond_false,cond_true,Option.bind_some,Sum.elim_inl,t1]
      exact ⟨_,rfl,by simp [mcnt,h1],by simp [mwt,h1,h2],by simp [dels,h1],by simp [frees,h1],⟨_,by simp [tookI,h1];exact IsMax.nil,rfl⟩,by simp [goneI,h1,h2];exact IsMax.one _,by simp [hereI,h1,h2];exact IsMin.nil⟩
    · simp only [cond_true,Option.bind_some,Sum.elim_inl,t1,t0]
      exact ⟨_,rfl,by simp [mcnt,h1],by simp [mwt,h1,h2],by simp [dels,h1],by simp [frees,h1],⟨_,by simp [tookI,h1];exact IsMax.nil,rfl⟩,by simp [goneI,h1,h2];exact IsMax.nil,by simp [hereI,h1,h2];exact IsMin.one _⟩
end Go.Proofs.YtgjbibabegabnaaGreat
namespace Go.Proofs.YtgjbibabegabnaaGreat
open Go Go.Proofs.YtgjbibabegabnaaGreat.Sx
theorem item_eq {a b:TItem} (h1 : ¬ ilt a b) (h2 : ¬ ilt b a):a=b:=by
  unfold ilt at *;exact item_ext (by omega) (by omega)
instance:DecidableEq TItem:=fun a b=>if h:a.key=b.key∧a.id=b.id then .isTrue (item_ext h.1 h.2) else .isFalse (fun e=>h (by rw [e];exact ⟨rfl,rfl⟩))
def wts (m:List TMark):List Int:=m.map mwt
def hgt (m:List TMark) (base:Int) (n:Nat):Int:=base+((wts m).take n).sum
def isG (x:TMark):Prop:=x.op.insert=true∧x.here=false
def isS (x:TMark):Prop:=x.op.insert=true∧x.here=true
def atG (m:List TMark) (i:Nat):Prop:=∃ x,m[i]? = some x∧isG x
def atS (m:List TMark) (i:Nat):Prop:=∃ x,m[i]? = some x∧isS x
def ltI (m:List TMark) (i j:Nat):Prop:=∃ x y,m[i]? = some x∧m[j]? = some y∧ilt x.op.item y.op.item
def CertM (m:List TMark) (E:Int):Prop:=PQ.Cert m.length (atG m) (atS m) (ltI m) (hgt m E)
def Dist (m:List TMark):Prop:=∀ (i j:Nat) (x y:TMark),m[i]? = some x→m[j]? = some y→x.op.insert=true→y.op.insert=true→x.op.item=y.op.item→i=j
def sins (x:TItem):List TItem→List TItem
  | [] => [x]
  | y :: t => if ilt x y then x :: y :: t else y :: sins x t
theorem sins_perm (x:TItem) : ∀ l,(sins x l).Perm (x::l)
  | [] => List.Perm.refl _
  | y :: t => by
    unfold sins
    split
    · exact List.Perm.refl _
    · exact ((sins_perm x t).cons y).trans (List.Perm.swap x y t)
theorem sins_sorted (x:TItem) : ∀ l,Sorted l→Sorted (sins x l)
  | [], _ => by simp [sins]
  | y :: t, h => by
    have h':=List.pairwise_cons.1 h
    unfold sins
    split
    · rename_i hx
      refine List.pairwise_cons.2 ⟨fun z hz=>?_,h⟩
      rcases List.mem_cons.1 hz with rfl | hz
      · exact ilt_ile hx
      · exact ile_trans (ilt_ile hx) (h'.1 z hz)
    · rename_i hx
      refine List.pairwise_cons.2 ⟨fun z hz=>?_,sins_sorted x t h'.2⟩
      rcases List.mem_cons.1 ((sins_perm x t).mem_iff.1 hz) with rfl | hz
      · exact not_ilt.1 hx
      · exact h'.1 z hz
structure RS where
  here:List TItem
  gone:List TItem
  free:Int
  took:List TTook
def stepR (s:RS) (o:TOp):RS:=if o.insert then ⟨sins o.item s.here,s.gone,s.free,s.took++[zTTook]⟩ else match s.here with
  | x :: t => ⟨t, s.gone ++ [x], s.free, s.took ++ [⟨true, x⟩]⟩
  | [] => ⟨[], s.gone, s.free + 1, s.took ++ [zTTook]⟩
def runR (l:List TOp):RS:=l.foldl stepR ⟨[],[],0,[]⟩
theorem runR_succ {l:List TOp} {i:Nat} {o:TOp} (h:l[i]? = some o):runR (l.take (i+1))=stepR (runR (l.take i)) o:=by
  unfold runR
  rw [List.take_add_one,h,List.foldl_append];rfl
theorem hgt_succ {m:List TMark} {E:Int} {i:Nat} {x:TMark} (h:m[i]? = some x):hgt m E (i+1)=hgt m E i+mwt x:=by
  unfold hgt
  have:(wts m)[i]? = some (mwt x):=by simp [wts,h]
  rw [List.take_add_one,this,List.sum_append];simp [Int.add_assoc]
theorem hereI_app (a b:List TMark):hereI (a++b)=hereI a++hereI b:=by simp [hereI]
theorem goneI_app (a b:List TMark):goneI (a++b)=goneI a++goneI b:=by simp [goneI]
theorem mem_hereI {m:List TMark} {x:TItem}:x∈hereI m↔∃ (i:Nat) (y:TMark),m[i]? = some y∧isS y∧y.op.item=x:=by
  unfold hereI isS
  simp only [List.mem_map,List.mem_filter,Bool.and_eq_true]
  constructor
  · rintro ⟨y,⟨h1,h2⟩,h3⟩
    obtain ⟨i,hi⟩:=List.mem_iff_getElem?.1 h1
    exact ⟨i,y,hi,h2,h3⟩
  · rintro ⟨i,y,h1,h2,h3⟩;exact ⟨y,⟨List.mem_of_getElem? h1,h2⟩,h3⟩
theorem mem_goneI {m:List TMark} {x:TItem}:x∈goneI m↔∃ (i:Nat) (y:TMark),m[i]? = some y∧isG y∧y.op.item=x:=by
  unfold goneI isG
  simp only [List.mem_map,List.mem_filter,Bool.and_eq_true,Bool.not_eq_true']
  constructor
  · rintro ⟨y,⟨h1,h2⟩,h3⟩
    obtain ⟨i,hi⟩:=List.mem_iff_getElem?.1 h1
    exact ⟨i,y,hi,h2,h3⟩
  · rintro ⟨i,y,h1,h2,h3⟩;exact ⟨y,⟨List.mem_of_getElem? h1,h2⟩,h3⟩
theorem take_get {α:Type} {l:List α} {p i:Nat} {x:α} (h:(l.take p)[i]? = some x):i<p∧l[i]? = some x:=by
  rw [List.getElem?_take] at h
  split at h
  · rename_i hi;exact ⟨hi,h⟩
  · cases h
abbrev SP (m:List TMark) (p:Nat):RS:=runR ((m.take p).map (·.op))
theorem SP_succ {m:List TMark} {p:Nat} {x:TMark} (h:m[p]? = some x):SP m (p+1)=stepR (SP m p) x.op:=by
  have:(m.map (·.op))[p]? = some x.op:=by simp [h]
  unfold SP;rw [List.map_take,List.map_take,runR_succ this]
theorem stepR_mem {s:RS} {o:TOp} {x:TItem} (h:x∈(stepR s o).here):x∈s.here∨(o.insert=true∧x=o.item):=by
  unfold stepR at h
  split at h
  · rename_i hi
    rcases List.mem_cons.1 ((sins_perm _ _).mem_iff.1 h) with h | h
    · exact .inr ⟨hi,h⟩
    · exact .inl h
  · split at h
    · rename_i hs;rw [hs];exact .inl (List.mem_cons_of_mem _ h)
    · cases h
theorem stepR_free (s:RS) (o:TOp):s.free≤(stepR s o).free:=by
  unfold stepR
  split
  · exact Int.le_refl _
  · split
    · exact Int.le_refl _
    · show s.free≤s.free+1;omega
theorem SP_free {m:List TMark} {b:Nat} : ∀ d,b+d≤m.length→(SP m b).free≤(SP m (b+d)).free
  | 0, _ => Int.le_refl _
  | d + 1, h => by
    obtain ⟨x,hx⟩ : ∃ x,m[b+d]? = some x:=⟨_,List.getElem?_eq_getElem (by omega)⟩
    have:=SP_succ hx
    rw [show b+(d+1)=b+d+1 by omega,this]
    exact Int.le_trans (SP_free d (by omega)) (stepR_free _ _)
theorem SP_since {m:List TMark} (hd:Dist m) {i b:Nat} {x:TMark} (hx:m[i]? = some x) (hi:x.op.insert=true) (hb:i<b) : ∀ d,b+d≤m.length→x.op.item∈(SP m (b+d)).here→x.op.item∈(SP m b).here
  | 0, _, h => h
  | d + 1, hl, h => by
    obtain ⟨y,hy⟩ : ∃ y,m[b+d]? = some y:=⟨_,List.getElem?_eq_getElem (by omega)⟩
    rw [show b+(d+1)=b+d+1 by omega,SP_succ hy] at h
    rcases stepR_mem h with h | ⟨h1,h2⟩
    · exact SP_since hd hx hi hb d (by omega) h
    · have:=hd _ _ _ _ hx hy hi h1 h2;omega
structure RInv (m:List TMark) (E:Int) (p:Nat) (gq:List TItem):Prop where
  here:(SP m p).here.Perm (hereI (m.take p)++gq)
  gone:((SP m p).gone++gq).Perm (goneI (m.take p))
  cnt:(gq.length:Int)+(E - (SP m p).free)=hgt m E p
  free:(SP m p).free≤E
  srt:Sorted (SP m p).here
theorem take_succ' {m:List TMark} {p:Nat} {x:TMark} (h:m[p]? = some x):m.take (p+1)=m.take p++[x]:=by rw [List.take_add_one,h];rfl
theorem inv_all {m:List TMark} {E:Int} (hd:Dist m) (hc:CertM m E) : ∀ p,p≤m.length→∃ gq,RInv m E p gq:=by
  intro p
  induction p using Nat.strongRecOn with
  | ind p ih =>
    intro hp
    cases p with
    | zero =>
      have h0:=hc.low 0 (Nat.zero_le _)
      have e:hgt m E 0=E:=by simp [hgt]
      exact ⟨[],by simp [SP,runR,hereI],by simp [SP,runR,goneI],by simp [SP,runR,e],by rw [e] at h0;simpa [SP,runR] using h0,by simp [SP,runR]⟩
    | succ p =>
      obtain ⟨gq,hI⟩:=ih p (Nat.lt_succ_self _) (by omega)
      obtain ⟨x,hx⟩ : ∃ x,m[p]? = some x:=⟨_,List.getElem?_eq_getElem (by omega)⟩
      have hs:=SP_succ hx
      have ht:=take_succ' hx
      have hh:=hgt_succ (E:=E) hx
      by_cases hi:x.op.insert=true
      · have e:stepR (SP m p) x.op=⟨sins x.op.item (SP m p).here,(SP m p).gone,(SP m p).free,(SP m p).took++[zTTook]⟩:=by unfold stepR;rw [if_pos hi]
        rw [e] at hs
        by_cases hg:x.here=true
        · refine ⟨gq,?_,?_,?_,?_,?_⟩
          · rw [hs,ht,hereI_app]
            have:hereI [x]=[x.op.item]:=by simp [hereI,hi,hg]
            rw [this]
            refine (sins_perm _ _).trans ((hI.here.cons x.op.item).trans ?_)
            rw [List.append_assoc]
            exact (List.perm_middle (a:=x.op.item) (l₁:=hereI (m.take p)) (l₂:=gq)).symm
          · rw [hs,ht,goneI_app]
            have:goneI [x]=[]:=by simp [goneI,hi,hg]
            rw [this,List.append_nil];exact hI.gone
          · rw [hs,hh];show _+(E - (SP m p).free)=_
            rw [hI.cnt];simp [mwt,hi,hg]
          · rw [hs];exact hI.free
          · rw [hs];exact sins_sorted _ _ hI.srt
        · have hg:x.here=false:=by simpa using hg
          refine ⟨x.op.item::gq,?_,?_,?_,?_,?_⟩
          · rw [hs,ht,hereI_app]
            have:hereI [x]=[]:=by simp [hereI,hi,hg]
            rw [this,List.append_nil]
            refine (sins_perm _ _).trans ((hI.here.cons x.op.item).trans ?_)
            exact (List.perm_middle (a:=x.op.item) (l₁:=hereI (m.take p)) (l₂:=gq)).symm
          · rw [hs,ht,goneI_app]
            have:goneI [x]=[x.op.item]:=by simp [goneI,hi,hg]
            rw [this]
            refine (List.perm_middle (a:=x.op.item)).trans ?_
            exact (hI.gone.cons x.op.item).trans (List.perm_append_comm (l₁:=[x.op.item]))
          · rw [hs,hh];show _+(E - (SP m p).free)=_
            have:=hI.cnt
            simp [mwt,hi,hg];omega
          · rw [hs];exact hI.free
          · rw [hs];exact sins_sorted _ _ hI.srt
      · have hi:x.op.insert=false:=by simpa using hi
        have hw:mwt x = -1:=by simp [mwt,hi]
        have h1:=hc.low (p+1) hp
        have hpos:1≤hgt m E p:=by rw [hh,hw] at h1;omega
        have eh:hereI [x]=[]:=by simp [hereI,hi]
        have eg:goneI [x]=[]:=by simp [goneI,hi]
        have en:(gq=[]→(SP m p).free<E):=fun e=>by have:=hI.cnt;subst e;simp at this;omega
        cases hH:(SP m p).here with
        | nil =>
          have e:stepR (SP m p) x.op=⟨[],(SP m p).gone,(SP m p).free+1,(SP m p).took++[zTTook]⟩:=by unfold stepR;rw [hi];simp [hH]
          rw [e] at hs
          have hq:=hI.here
          rw [hH] at hq
          have hq2:=List.append_eq_nil_iff.1 (List.nil_perm.1 hq)
          have hgq:=hq2.2
          subst hgq
          refine ⟨[],?_,?_,?_,?_,?_⟩
          · rw [hs,ht,hereI_app,eh,hq2.1];exact List.Perm.refl _
          · rw [hs,ht,goneI_app,eg];simpa using hI.gone
          · rw [hs,hh,hw];have:=hI.cnt;show _+(E - ((SP m p).free+1))=_;simp at this ⊢;omega
          · rw [hs];show (SP m p).free+1≤E;have:=en rfl;omega
          · rw [hs];exact List.Pairwise.nil
        | cons y t =>
          have e:stepR (SP m p) x.op=⟨t,(SP m p).gone++[y],(SP m p).free,(SP m p).took++[⟨true,y⟩]⟩:=by unfold stepR;rw [hi];simp [hH]
          rw [e] at hs
          have hq:=hI.here
          rw [hH] at hq
          have hsr:=hI.srt
          rw [hH] at hsr
          have hmin : ∀ z∈y::t,ile y z:=fun z hz=>by
            rcases List.mem_cons.1 hz with rfl | hz
            · exact ile_refl _
            · exact (List.pairwise_cons.1 hsr).1 z hz
          have hyg:y∈gq:=by
            refine (List.mem_append.1 (hq.mem_iff.1 List.mem_cons_self)).elim (fun hy=>?_) id
            exfalso
            obtain ⟨j,my,hj,hjS,hjy⟩:=mem_hereI.1 hy
            obtain ⟨hjp,hj⟩:=take_get hj
            cases hgq:gq with
            | nil =>
              have hfree:=en hgq
              have hE0:0<hgt m E 0:=by
                have h0:=SP_free (m:=m) (b:=0) p (by omega)
                rw [Nat.zero_add] at h0
                have e0:(SP m 0).free=0:=rfl
                have:hgt m E 0=E:=by simp [hgt]
                omega
              obtain ⟨b,hb1,hb2⟩:=hc.free hE0 j (by omega) ⟨my,hj,hjS⟩
              obtain ⟨gb,hB⟩:=ih b (by omega) (by omega)
              have h3:=hB.cnt
              have h4:=hB.free
              have h5:=SP_free (m:=m) (b:=b) (p - b) (by omega)
              rw [show b+(p - b)=p by omega] at h5
              omega
            | cons g gr =>
              have hgm:g∈y::t:=hq.mem_iff.2 (List.mem_append_right _ (by rw [hgq];exact List.mem_cons_self))
              have hgg:g∈goneI (m.take p):=hI.gone.mem_iff.1 (List.mem_append_right _ (by rw [hgq];exact List.mem_cons_self))
              obtain ⟨i,mg,hig,hiG,rfl⟩:=mem_goneI.1 hgg
              obtain ⟨hip,hig⟩:=take_get hig
              have hne:y≠mg.op.item:=fun e=>by
                have:=hd j i my mg hj hig hjS.1 hiG.1 (hjy.trans e)
                subst this
                rw [hig] at hj;cases hj
                exact absurd (hiG.2.symm.trans hjS.2) (by decide)
              have hlt:ilt y mg.op.item:=ilt_iff.2 ⟨hmin _ hgm,hne⟩
              obtain ⟨b,hb1,hb2,hb3⟩:=hc.two i j (by omega) (by omega) ⟨mg,hig,hiG⟩ ⟨my,hj,hjS⟩ ⟨my,mg,hj,hig,hjy▸hlt⟩
              obtain ⟨gb,hB⟩:=ih b (by omega) (by omega)
              have h3:=hB.cnt
              have h4:=hB.free
              have h5:gb=[]:=List.eq_nil_of_length_eq_zero (by omega)
              subst h5
              have h6:=SP_since hd hig hiG.1 hb1 (p - b) (by omega) (by rw [show b+(p - b)=p by omega,hH];exact hgm)
              have h7:=hB.here.mem_iff.1 h6
              rw [List.append_nil] at h7
              obtain ⟨k,mk,hk,hkS,hke⟩:=mem_hereI.1 h7
              obtain ⟨_,hk⟩:=take_get hk
              have:=hd k i mk mg hk hig hkS.1 hiG.1 hke
              subst this
              rw [hig] at hk;cases hk
              exact absurd (hiG.2.symm.trans hkS.2) (by decide)
          have hpe:=List.perm_cons_erase hyg
          refine ⟨gq.erase y,?_,?_,?_,?_,?_⟩
          · rw [hs,ht,hereI_app,eh,List.append_nil]
            show t.Perm _
            have:(y::t).Perm (y::(hereI (m.take p)++gq.erase y)):=hq.trans ((hpe.append_left _).trans (List.perm_middle (a:=y)))
            exact this.cons_inv
          · rw [hs,ht,goneI_app,eg,List.append_nil]
            show ((SP m p).gone++[y]++gq.erase y).Perm _
            rw [List.append_assoc]
            exact (hpe.symm.append_left _).trans hI.gone
          · rw [hs,hh,hw]
            have:=hI.cnt
            have hl:=hpe.length_eq
            simp only [List.length_cons] at hl
            show ((gq.erase y).length:Int)+(E - (SP m p).free)=_
            omega
          · rw [hs];exact hI.free
          · rw [hs];exact (List.pairwise_cons.1 hsr).2
theorem run_cert {m:List TMark} {E:Int} (hd:Dist m) (hc:CertM m E):let s:=runR (m.map (·.op));s.here.Perm (hereI m)∧s.gone.Perm (goneI m)∧s.free=E∧Sorted s.here:=by
  obtain ⟨gq,hI⟩:=inv_all hd hc m.length (Nat.le_refl _)
  have h1:=hI.cnt
  rw [hc.fin] at h1
  have h2:=hI.free
  have h3:gq=[]:=List.eq_nil_of_length_eq_zero (by omega)
  subst h3
  have e:SP m m.length=runR (m.map (·.op)):=by unfold SP;rw [List.take_length]
  have h4:=hI.here;have h5:=hI.gone
  rw [List.take_length,List.append_nil,e] at h4 h5
  rw [e] at h1 h2
  refine ⟨h4,h5,by simp at h1;omega,?_⟩
  have:=hI.srt;rwa [e] at this
end Go.Proofs.YtgjbibabegabnaaGreat
