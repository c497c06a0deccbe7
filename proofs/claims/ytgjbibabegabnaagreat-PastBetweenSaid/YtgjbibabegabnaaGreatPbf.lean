/- My texts that the proof of PastBetween rests on, part 6: a calculus of walks, the walks, and the plain law. -/
import Derived.Test.YtgjbibabegabnaaGreatPbe
set_option linter.unusedVariables false
set_option linter.unusedSimpArgs false
namespace Go.Proofs.YtgjbibabegabnaaGreat
open Go Go.Proofs.YtgjbibabegabnaaGreat.Sx
theorem mid_ok {a b:Nat} (h:a<b) (hb:b<1000):w64 ((w64 ((a:Int)+(b:Int))).tdiv 2)=(((a+b) / 2:Nat):Int):=by
  rw [w64_id (x:=(a:Int)+(b:Int)) (by omega) (by omega)]
  have:((a:Int)+(b:Int)).tdiv 2=(((a+b) / 2:Nat):Int):=by
    rw [Int.tdiv_eq_ediv_of_nonneg (by omega)];omega
  rw [this,w64_id (by omega) (by omega)]
theorem within_loop {Q : List TQueue} {vs : List (TPart × List TItem)} (h : VOk Q vs) {v : TPart × List TItem} (hv : PartOk Q v) (k : Int) : ∀ (n a b : Nat), b ≤ v.2.length → a ≤ b → b < n + a →
    ∃ r,fuse_Views_within.l0 K1 Q ⟨fsts vs⟩ v.1 k n ((a:Int),(b:Int))=some r∧((r=Sum.inr ()∧∀ (j:Nat) (x:TItem),v.2[j]? = some x→a≤j→j<b→((below (itm vs) x).length:Int)≠k) ∨
      ∃ (j:Nat) (x:TItem),v.2[j]? = some x∧a≤j∧j<b∧((below (itm vs) x).length:Int)=k∧r=Sum.inl (x,true))
  | 0, a, b, _, _, h => by omega
  | n + 1, a, b, hb, hab', hn => by
    by_cases hab:a<b
    · obtain ⟨t,h1,h2⟩:=hv
      have hl:=h2.len
      have hs:=h2.srt
      have hm:(a+b) / 2<v.2.length:=by omega
      have hx:v.2[(a+b) / 2]? = some v.2[(a+b) / 2]:=List.getElem?_eq_getElem hm
      generalize v.2[(a+b) / 2]=x at hx
      have e1:=h2.at hx
      have e2:=vrank_ok h x
      have mono : ∀ (i j:Nat) (y z:TItem),v.2[i]? = some y→v.2[j]? = some z→i≤j→(below (itm vs) y).length≤(below (itm vs) z).length:=by
        intro i j y z hy hz hij
        by_cases e:i=j
        · subst e;rw [hy] at hz;cases hz;exact Nat.le_refl _
        · obtain ⟨hi',rfl⟩:=List.getElem?_eq_some_iff.1 hy
          obtain ⟨hj',rfl⟩:=List.getElem?_eq_some_iff.1 hz
          exact below_mono (List.pairwise_iff_getElem.1 hs i j hi' hj' (by omega))
      simp only [fuse_Views_within.l0]
      rw [dec_lt hab,cond_true,h1,Option.bind_some,mid_ok hab (by omega),e1,Option.bind_some]
      simp only [slot,e2,Option.bind_some]
      by_cases hk:((below (itm vs) x).length:Int)=k
      · refine ⟨_,by rw [beq_iff_eq.2 hk,cond_true],.inr ⟨(a+b) / 2,x,hx,by omega,by omega,hk,rfl⟩⟩
      · rw [beq_eq_false_iff_ne.2 hk,cond_false]
        by_cases hlt:((below (itm vs) x).length:Int)<k
        · rw [decide_eq_true hlt,cond_true,w64_succ (by omega)]
          obtain ⟨r,r1,r2⟩:=within_loop h ⟨t,h1,h2⟩ k n ((a+b) / 2+1) b hb (by omega) (by omega)
          refine ⟨r,r1,?_⟩
          rcases r2 with ⟨r2,r3⟩ | ⟨j,y,hj,j1,j2,j3,j4⟩
          · refine .inl ⟨r2,fun j y hy ha hb=>?_⟩
            by_cases hj:(a+b) / 2+1≤j
            · exact r3 j y hy hj hb
            · have:=mono j _ y x hy hx (by omega);omega
          · exact .inr ⟨j,y,hj,by omega,j2,j3,j4⟩
        · rw [decide_eq_false hlt,cond_false]
          obtain ⟨r,r1,r2⟩:=within_loop h ⟨t,h1,h2⟩ k n a ((a+b) / 2) (by omega) (by omega) (by omega)
          refine ⟨r,r1,?_⟩
          rcases r2 with ⟨r2,r3⟩ | ⟨j,y,hj,j1,j2,j3,j4⟩
          · refine .inl ⟨r2,fun j y hy ha hb=>?_⟩
            by_cases hj:j<(a+b) / 2
            · exact r3 j y hy ha hj
            · have:=mono _ j x y hx hy (by omega);omega
          · exact .inr ⟨j,y,hj,j1,by omega,j3,j4⟩
    · refine ⟨_,?_,.inl ⟨rfl,fun j x hx h1 h2=>by omega⟩⟩
      simp only [fuse_Views_within.l0]
      rw [dec_nlt (by omega)];rfl
theorem pit_get {p:TPart} {t:TS TSlot TSize} {T:List TItem} (h:Sh t T) {x:TItem}:x∈pit p T↔∃ j:Nat,T.length - (pit p T).length≤j∧T[j]? = some x:=by
  obtain ⟨P,hP⟩:=pit_drop (p:=p) h
  have hl:T.length=P.length+(pit p T).length:=by
    have:=congrArg List.length hP;simpa using this
  constructor
  · intro hx
    obtain ⟨i,hi⟩:=List.mem_iff_getElem?.1 hx
    refine ⟨P.length+i,by omega,?_⟩
    rw [hP,List.getElem?_append_right (by omega),Nat.add_sub_cancel_left];exact hi
  · rintro ⟨j,hj,hx⟩
    rw [hP,List.getElem?_append_right (by omega)] at hx
    exact List.mem_of_getElem? hx
theorem within_ok {Q : List TQueue} {vs : List (TPart × List TItem)} (h : VOk Q vs) {v : TPart × List TItem} (hv : PartOk Q v) (k : Int) :
    ∃ r,fuse_Views_within.f K1 Q ⟨fsts vs⟩ v.1 k=some r∧((r=(zTItem,false)∧∀ x∈pit v.1 v.2,((below (itm vs) x).length:Int)≠k)∨∃ x∈pit v.1 v.2,((below (itm vs) x).length:Int)=k∧r=(x,true)):=by
  have ha:=ahead_ok hv
  obtain ⟨t,h1,h2⟩:=id hv
  have hl:=h2.len
  obtain ⟨r,r1,r2⟩:=within_loop h hv k K1 (v.2.length - (pit v.1 v.2).length) v.2.length (Nat.le_refl _) (by omega) (by unfold K1;omega)
  unfold fuse_Views_within.f
  simp only [ha,Option.bind_some,h1,h2.size,r1]
  rcases r2 with ⟨r2,r3⟩ | ⟨j,y,hj,j1,j2,j3,j4⟩
  · subst r2
    refine ⟨_,rfl,.inl ⟨rfl,fun x hx=>?_⟩⟩
    obtain ⟨j,g1,g2⟩:=(pit_get h2).1 hx
    exact r3 j x g2 g1 (List.getElem?_eq_some_iff.1 g2).1
  · subst j4
    exact ⟨_,rfl,.inr ⟨y,(pit_get h2).2 ⟨j,j1,hj⟩,j3,rfl⟩⟩
theorem mem_itm {vs:List (TPart×List TItem)} {x:TItem}:x∈itm vs↔∃ v∈vs,x∈pit v.1 v.2:=List.mem_flatMap
theorem at_loop' {Q : List TQueue} {vs : List (TPart × List TItem)} (h : VOk Q vs) (k : Int) : ∀ (d i n : Nat), i + d = vs.length → d < n → (∀ x ∈ itm (vs.take i), ((below (itm vs) x).length : Int) ≠ k) →
    ∃ r,fuse_Views_At.l0 K1 Q ⟨fsts vs⟩ k n (i:Int)=some r∧((r=Sum.inr ()∧∀ x∈itm vs,((below (itm vs) x).length:Int)≠k)∨∃ x∈itm vs,((below (itm vs) x).length:Int)=k∧r=Sum.inl (x,true))
  | d, i, 0, _, h, _ => by omega
  | 0, i, n + 1, hi, _, hx => by
    rw [List.take_of_length_le (l:=vs) (i:=i) (by omega)] at hx
    refine ⟨_,?_,.inl ⟨rfl,hx⟩⟩
    simp only [fuse_Views_At.l0,List.length_map]
    rw [dec_nlt (by omega)];rfl
  | d + 1, i, n + 1, hi, hn, hx => by
    obtain ⟨v,hv,_⟩:=drop_cons (l:=vs) (i:=i) (by omega)
    have hvm:=List.mem_of_getElem? hv
    obtain ⟨r,r1,r2⟩:=within_ok h (h.ok v hvm) k
    have hl:=h.len
    simp only [fuse_Views_At.l0,List.length_map]
    rw [dec_lt (by omega),cond_true,atL_fst hv,Option.bind_some,r1,Option.bind_some]
    rcases r2 with ⟨rfl,r3⟩ | ⟨x,hx',r3,rfl⟩
    · simp only [cond_false]
      rw [w64_succ (by omega)]
      refine at_loop' h k d (i+1) n (by omega) (by omega) (fun x hx2=>?_)
      rw [vtake hv] at hx2
      rcases List.mem_append.1 hx2 with hx2 | hx2
      · exact hx x hx2
      · exact r3 x hx2
    · exact ⟨_,rfl,.inr ⟨x,mem_itm.2 ⟨v,hvm,hx'⟩,r3,rfl⟩⟩
theorem srt_strict {U:List TItem} (h:U.Nodup):(srt U).Pairwise ilt:=by
  have h1:=srt_sorted U
  have h2:(srt U).Nodup:=(srt_perm U).nodup_iff.2 h
  exact (h1.and h2).imp (fun h=>ilt_iff.2 h)
theorem below_strict {l:List TItem} (h:l.Pairwise ilt) {i:Nat} {x:TItem} (hx:l[i]? = some x):below l x=l.take i∧behind l x=l.drop (i+1):=by
  have hi:=(List.getElem?_eq_some_iff.1 hx).1
  have e:l=l.take i++x::l.drop (i+1):=by
    obtain ⟨y,hy,hd⟩:=drop_cons (l:=l) (i:=i) hi
    rw [hx] at hy;cases hy
    rw [← hd,List.take_append_drop]
  have hp:=h
  rw [e] at hp
  have h1:=List.pairwise_append.1 hp
  have h2:=List.pairwise_cons.1 h1.2.1
  have c:CutI x l (l.take i) [x] (l.drop (i+1)):=⟨e,fun y hy=>h1.2.2 y hy x List.mem_cons_self,h2.1,.inr rfl⟩
  exact ⟨c.below,c.behind⟩
theorem below_perm {U V:List TItem} (h:U.Perm V) (x:TItem):(below U x).length=(below V x).length:=(h.filter _).length_eq
theorem rank_srt {U:List TItem} (h:U.Nodup) {x:TItem} {k:Nat}:(x∈U∧(below U x).length=k)↔(srt U)[k]? = some x:=by
  have hs:=srt_strict h
  have key : ∀ j y,(srt U)[j]? = some y→(below U y).length=j:=fun j y hy=>by
    rw [← below_perm (srt_perm U),(below_strict hs hy).1,List.length_take]
    have:=(List.getElem?_eq_some_iff.1 hy).1;omega
  constructor
  · rintro ⟨hx,hk⟩
    obtain ⟨j,hj⟩:=List.mem_iff_getElem?.1 ((srt_perm U).mem_iff.2 hx)
    have h1:=key j x hj
    rw [hk] at h1;rw [h1];exact hj
  · intro hk
    exact ⟨(srt_perm U).mem_iff.1 (List.mem_of_getElem? hk),key k x hk⟩
def atI (l:List TItem) (k:Int):TItem×Bool:=if k<0 then (zTItem,false) else match l[k.toNat]? with
  | some x => (x, true)
  | none => (zTItem, false)
theorem vat_ok {Q:List TQueue} {vs:List (TPart×List TItem)} (h:VOk Q vs) (hn:(itm vs).Nodup) (k:Int):fuse_Views_At.f K1 Q ⟨fsts vs⟩ k=some (atI (srt (itm vs)) k):=by
  obtain ⟨r,r1,r2⟩:=at_loop' h k vs.length 0 K1 (by omega) (by have:=h.len;unfold K1;omega) (fun x hx=>by simp [itm] at hx)
  replace r1:fuse_Views_At.l0 K1 Q ⟨fsts vs⟩ k K1 0=some r:=r1
  unfold fuse_Views_At.f atI
  rw [r1,Option.bind_some]
  rcases r2 with ⟨rfl,r3⟩ | ⟨x,hx,r3,rfl⟩
  · show some (zTItem,false)=_
    split
    · rfl
    · rename_i h0
      cases hg:(srt (itm vs))[k.toNat]? with
      | none => rfl
      | some x =>
        obtain ⟨g1,g2⟩:=(rank_srt hn).2 hg
        exact absurd (by rw [g2];omega) (r3 x g1)
  · show some (x,true)=_
    rw [if_neg (by omega)]
    have:(srt (itm vs))[k.toNat]? = some x:=(rank_srt hn).1 ⟨hx,by omega⟩
    rw [this]
theorem raised_ok (Q:List TQueue) (p:TPart) (x:TItem) : ∃ p',fuse_part_raised.f K1 Q p x=some p'∧p'.shelf=p.shelf∧∀ T,pit p' T=behind (pit p T) x:=by
  unfold fuse_part_raised.f
  by_cases hf:p.floor.found=true
  · simp only [hf,Bool.not_true,cond_false,itemCompare_eq K1 (by decide),Option.bind_some]
    by_cases hx:ilt p.floor.item x
    · rw [decide_eq_true (isgn_lt'.2 hx),cond_true]
      refine ⟨_,rfl,rfl,fun T=>?_⟩
      unfold pit;rw [if_pos rfl,if_pos hf]
      unfold behind
      rw [List.filter_filter]
      refine List.filter_congr (fun y _=>?_)
      by_cases hy:ilt x y
      · simp [hy,ilt_trans hx hy]
      · simp [hy]
    · rw [decide_eq_false (fun h=>hx (isgn_lt'.1 h)),cond_false]
      refine ⟨_,rfl,rfl,fun T=>?_⟩
      unfold pit;rw [if_pos hf]
      exact (filt_all (p:=fun y=>ilt x y) (fun y hy=>ilt_of x p.floor.item y hx (of_decide_eq_true (List.mem_filter.1 hy).2))).symm
  · have hf':p.floor.found=false:=by simpa using hf
    simp only [hf',Bool.not_false,cond_true]
    refine ⟨_,rfl,rfl,fun T=>?_⟩
    unfold pit;rw [if_pos rfl,if_neg hf]
where
  ilt_of (x f y:TItem) (h : ¬ ilt f x) (hy:ilt f y):ilt x y:=ile_trans_lt (not_ilt.1 h) hy
theorem raise_loop (Q : List TQueue) (e : THp) (l0 : List TPart) (x : TItem × Bool) (g : TPart → TPart) (hg : ∀ p, fuse_part_raised.f K1 Q p x.1 = some (g p)) (ps : List TPart) (hl : ps.length < 1000) (hl0 : l0.length + 1 = ps.length) : ∀ (d i n : Nat), i + d = ps.length → d < n →
    fuse_Views_Then.l0 K1 Q e l0 x n ((ps.take i).map g++ps.drop i,(i:Int))=some (ps.map g)
  | d, i, 0, _, h => by omega
  | 0, i, n + 1, hi, _ => by
    simp only [fuse_Views_Then.l0,List.length_append,List.length_singleton]
    rw [show ((l0.length+1:Nat):Int)=(ps.length:Int) by omega,dec_nlt (by omega),cond_false,List.take_of_length_le (by omega),List.drop_eq_nil_of_le (by omega),List.append_nil]
  | d + 1, i, n + 1, hi, hn => by
    obtain ⟨p,hp,hd⟩:=drop_cons (l:=ps) (i:=i) (by omega)
    have hti:((ps.take i).map g).length=i:=by rw [List.length_map,List.length_take];omega
    simp only [fuse_Views_Then.l0,List.length_append,List.length_singleton]
    have e1:((ps.take i).map g++ps.drop i)[i]? = some p:=by rw [List.getElem?_append_right (by omega),hti,Nat.sub_self,hd];rfl
    rw [show ((l0.length+1:Nat):Int)=(ps.length:Int) by omega,dec_lt (by omega),cond_true,atL_nat e1,Option.bind_some,hg p,Option.bind_some,w64_succ (by omega),Int.toNat_natCast]
    have e2:((ps.take i).map g++ps.drop i).set i (g p)=(ps.take (i+1)).map g++ps.drop (i+1):=by
      rw [List.set_append_right _ _ (by omega),hti,Nat.sub_self,hd,List.set_cons_zero,take_snoc hp,List.map_append,List.append_assoc];rfl
    rw [e2]
    exact raise_loop Q e l0 x g hg ps hl hl0 d (i+1) n (by omega) (by omega)
theorem clone_ok (Q:List TQueue) (l:List TPart) (hl:l.length<1000):slices_Clone.f K1 Q l=some l:=by
  unfold slices_Clone.f
  rw [decide_eq_true (by simp;omega),cond_true];simp
structure QSt (q:TQueue) (P G:List TItem) (n:Nat):Prop where
  pres:Sh q.present P
  gone:Sh q.gone G
  dels:partial_Queue_Deletes.f K1 q=some (n:Int)
theorem sh_of {p:PN TSlot TSize} {r:TRef} {l:List TItem} {c:Int} {B:Nat} (h : ∃ T,GrS p r T c B∧T.Perm (sls l)) (hl:l.length<1000):Sh ⟨p,r⟩ (srt l):=by
  obtain ⟨T,g,hp⟩:=h
  have e:T=sls (T.map (·.item)):=by
    show T=(T.map (·.item)).map slot
    rw [List.map_map]
    conv=>lhs;rw [← List.map_id T]
    exact List.map_congr_left (fun s hs=>(sls_item (hp.mem_iff.1 hs)).1)
  have hq:(T.map (·.item)).Perm l:=by
    have:=hp.map (·.item)
    rwa [List.map_map,show (fun s:TSlot=>s.item) ∘ slot=id from rfl,List.map_id] at this
  have hs:Sorted (T.map (·.item)):=by
    refine (List.pairwise_map (f:=fun s:TSlot=>s.item) (R:=ile)).2 (g.sorted.imp (fun h=>ilt_ile h))
  rw [srt_of hs hq] at e
  rw [e] at g
  exact ⟨⟨c,B,g⟩,by rw [srt_len];exact hl⟩
theorem qst_of {q:TQueue} {m:List TMark} {E c:Int} {B:Nat} (h:QOk q m E c B) {os:List TOp} (ho:m.map (·.op)=os):QSt q (runR os).here (srt (runR os).gone) (delN os):=by
  have hl:=h.rep.lim
  have ls:=len_split m
  have r:=run_cert h.rep.dist h.cert
  rw [ho] at r
  have hd:delN os=(dels m).length:=by
    rw [← ho];unfold delN delsO dels
    rw [List.filter_map,List.length_map];rfl
  obtain ⟨s,s1,s2⟩:=between_ok' h.rep.marks (by omega) 0 m.length
  replace s1:Tree_Between.f opsM K1 q.marks.p q.marks.r 0 (m.length:Int)=some s:=s1
  rw [List.take_length,List.drop_zero] at s2
  refine ⟨?_,?_,?_⟩
  · rw [srt_of r.2.2.2 r.1]
    exact sh_of h.rep.pres (by omega)
  · rw [srt_eq r.2.1]
    exact sh_of h.rep.gone (by omega)
  · unfold partial_Queue_Deletes.f partial_Queue_all.f
    simp only [len_ok h.rep.marks,Option.bind_some,s1,s2.deletes,hd]
end Go.Proofs.YtgjbibabegabnaaGreat
namespace Go.Proofs.YtgjbibabegabnaaGreat
open Go Go.Proofs.YtgjbibabegabnaaGreat.Sx
theorem hQ1 {Q:List TQueue} {j:Nat} {q:TQueue} (h:Q[j]? = some q):hQueue Q ⟨j,1⟩=some q:=by unfold hQueue;rw [if_pos rfl];exact h
theorem hT4 {Q:List TQueue} {j:Nat} {q:TQueue} (h:Q[j]? = some q):hTree Q ⟨j,4⟩=some q.present:=by
  unfold hTree;show (Q[j]?).bind _=_;rw [h];rfl
theorem hT6 {Q:List TQueue} {j:Nat} {q:TQueue} (h:Q[j]? = some q):hTree Q ⟨j,6⟩=some q.gone:=by
  unfold hTree;show (Q[j]?).bind _=_;rw [h];rfl
theorem pit0 (e:THp) (T:List TItem):pit ⟨e,zTTook⟩ T=T:=by unfold pit;exact if_neg (fun h=>by cases h)
theorem itm_map {g:TPart→TPart} {x:TItem} (hg : ∀ p T,pit (g p) T=behind (pit p T) x) : ∀ vs:List (TPart×List TItem),itm (vs.map fun v=>(g v.1,v.2))=behind (itm vs) x
  | [] => rfl
  | v :: vs => by
    have e:itm ((v::vs).map fun v=>(g v.1,v.2))=pit (g v.1) v.2++itm (vs.map fun v=>(g v.1,v.2)):=rfl
    have e2:itm (v::vs)=pit v.1 v.2++itm vs:=rfl
    rw [e,e2,hg,itm_map hg vs];exact (List.filter_append ..).symm
theorem then_ok {Q : List TQueue} {vs : List (TPart × List TItem)} (h : VOk Q vs) {j : Nat} {q : TQueue} (hq : Q[j]? = some q) {P G : List TItem} {n : Nat} (hs : QSt q P G n) (hn9 : n < 1000) (hnd : (itm vs ++ G).Nodup) (hlen : vs.length + 2 < 1000) :
    ∃ vs',fuse_Views_Then.f K1 Q ⟨fsts vs⟩ ⟨j,1⟩=some ⟨fsts vs'⟩∧VOk Q vs'∧(itm vs').Perm (fuseI (itm vs) P G n)∧vs'.length≤vs.length+2:=by
  have own:PartOk Q (⟨⟨j,4⟩,zTTook⟩,P):=⟨_,hT4 hq,hs.pres⟩
  have all:VOk Q (vs++[(⟨⟨j,6⟩,zTTook⟩,G)]):=⟨fun v hv=>by
    rcases List.mem_append.1 hv with hv | hv
    · exact h.ok v hv
    · rw [List.mem_singleton.1 hv];exact ⟨_,hT6 hq,hs.gone⟩,by simp;omega⟩
  have eall:fsts (vs++[(⟨⟨j,6⟩,zTTook⟩,G)])=fsts vs++([⟨⟨j,6⟩,zTTook⟩]:List TPart):=by unfold fsts;rw [List.map_append];rfl
  have iall:itm (vs++[(⟨⟨j,6⟩,zTTook⟩,G)])=itm vs++G:=by
    rw [itm_app];congr 1
    show pit _ _++[]=_
    rw [List.append_nil,pit0]
  have iown:itm [((⟨⟨j,4⟩,zTTook⟩,P):TPart×List TItem)]=P:=by
    show pit _ _++[]=_
    rw [List.append_nil,pit0]
  have e1:=vlen_ok all
  have e2:=vat_ok all (by rw [iall];exact hnd) ((n:Int) - 1)
  have hfl:(fsts vs).length=vs.length:=List.length_map ..
  have hlim : ∀ m:Nat,m<1000→decide (m+1<4294967296)=true:=fun m hm=>decide_eq_true (by omega)
  have hsl:=srt_len (itm vs++G)
  rw [iall] at e1 e2
  rw [eall] at e1 e2
  unfold fuse_Views_Then.f
  simp only [hQ1 hq,Option.bind_some,partial_Queue_Present.f,partial_Queue_Gone.f,clone_ok Q (fsts vs) (by omega),List.length_singleton,hfl,hlim vs.length (by omega),cond_true,hs.dels,e1]
  by_cases hge:(n:Int)≥((itm vs++G).length:Int)
  · rw [decide_eq_true hge,cond_true]
    refine ⟨[(⟨⟨j,4⟩,zTTook⟩,P)],rfl,⟨fun v hv=>by rw [List.mem_singleton.1 hv];exact own,by simp⟩,?_,by simp⟩
    rw [iown];unfold fuseI
    rw [List.drop_eq_nil_of_le (by rw [hsl];omega),List.append_nil]
    exact (srt_perm P).symm
  · rw [decide_eq_false hge,cond_false,w64_id (by omega) (by omega),e2,Option.bind_some]
    by_cases h0:n=0
    · subst h0
      have:atI (srt (itm vs++G)) (((0:Nat):Int) - 1)=(zTItem,false):=rfl
      simp only [this,cond_false,Option.bind_some,List.length_append,List.length_singleton,hfl,hlim (vs.length+1) (by omega),cond_true]
      refine ⟨(vs++[(⟨⟨j,6⟩,zTTook⟩,G)])++[(⟨⟨j,4⟩,zTTook⟩,P)],?_,⟨fun v hv=>?_,by simp;omega⟩,?_,by simp⟩
      · rw [← eall];unfold fsts;rw [List.map_append (l₂:=[((⟨⟨j,4⟩,zTTook⟩,P):TPart×List TItem)])];rfl
      · rcases List.mem_append.1 hv with hv | hv
        · exact all.ok v hv
        · rw [List.mem_singleton.1 hv];exact own
      · rw [itm_app,iall,iown];unfold fuseI
        rw [List.drop_zero]
        exact List.perm_append_comm.trans (((srt_perm _).symm.append_left P).trans (srt_perm _).symm)
    · have hlt:n - 1<(srt (itm vs++G)).length:=by rw [hsl];omega
      have hx:(srt (itm vs++G))[n - 1]? = some (srt (itm vs++G))[n - 1]:=List.getElem?_eq_getElem hlt
      generalize (srt (itm vs++G))[n - 1]=x at hx
      have:atI (srt (itm vs++G)) ((n:Int) - 1)=(x,true):=by
        unfold atI;rw [if_neg (by omega),show ((n:Int) - 1).toNat=n - 1 by omega,hx]
      obtain ⟨g,hg,hgs⟩ : ∃ g:TPart→TPart,(∀ p,fuse_part_raised.f K1 Q p x=some (g p))∧∀ p,(g p).shelf=p.shelf∧∀ T,pit (g p) T=behind (pit p T) x :=
        ⟨fun p=>(fuse_part_raised.f K1 Q p x).getD p,fun p=>by obtain ⟨p',h1,_⟩:=raised_ok Q p x;simp only [h1,Option.getD_some],fun p=>by obtain ⟨p',h1,h2,h3⟩:=raised_ok Q p x;simp only [h1,Option.getD_some];exact ⟨h2,h3⟩⟩
      have hloop:=raise_loop Q ⟨j,1⟩ (fsts vs) (x,true) g hg (fsts vs++[⟨⟨j,6⟩,zTTook⟩]) (by simp;omega) (by simp) (vs.length+1) 0 K1 (by simp) (by unfold K1;omega)
      replace hloop:fuse_Views_Then.l0 K1 Q ⟨j,1⟩ (fsts vs) (x,true) K1 (fsts vs++([⟨⟨j,6⟩,zTTook⟩]:List TPart),0)=_:=hloop
      simp only [this,cond_true,hloop,Option.bind_some,List.length_map,List.length_append,List.length_singleton,hlim (vs.length+1) (by omega)]
      refine ⟨(vs++[((⟨⟨j,6⟩,zTTook⟩,G):TPart×List TItem)]).map (fun v=>(g v.1,v.2))++[(⟨⟨j,4⟩,zTTook⟩,P)],?_,⟨fun v hv=>?_,by simp;omega⟩,?_,by simp⟩
      · rw [← eall];unfold fsts;rw [List.map_append (l₂:=[((⟨⟨j,4⟩,zTTook⟩,P):TPart×List TItem)]),List.map_map,List.map_map];rfl
      · rcases List.mem_append.1 hv with hv | hv
        · obtain ⟨v0,h1,rfl⟩:=List.mem_map.1 hv
          obtain ⟨t,g1,g2⟩:=all.ok v0 h1
          exact ⟨t,by rw [(hgs v0.1).1];exact g1,g2⟩
        · rw [List.mem_singleton.1 hv];exact own
      · rw [itm_app,itm_map (fun p T=>(hgs p).2 T),iall,iown];unfold fuseI
        have hb:=(below_strict (srt_strict hnd) hx).2
        rw [show n - 1+1=n by omega] at hb
        rw [← hb]
        exact List.perm_append_comm.trans (((((srt_perm _).filter _).symm).append_left P).trans (srt_perm _).symm)
theorem hereS_mem {U:List TItem} {os:List TOp} {x:TItem}:x∈os.foldl hereS U→x∈U∨∃ o∈os,o.insert=true∧o.item=x:=by
  induction os generalizing U with
  | nil => exact .inl
  | cons o os ih =>
    intro hx
    rw [List.foldl_cons] at hx
    rcases ih hx with hx | ⟨o',h1,h2⟩
    · unfold hereS at hx
      split at hx
      · rename_i ho
        rcases List.mem_cons.1 ((sins_perm _ _).mem_iff.1 hx) with rfl | hx
        · exact .inr ⟨o,List.mem_cons_self,ho,rfl⟩
        · exact .inl hx
      · exact .inl (List.mem_of_mem_tail hx)
    · exact .inr ⟨o',List.mem_cons_of_mem _ h1,h2⟩
theorem gone_mem {os:List TOp} {x:TItem} (hx:x∈(runR os).gone) : ∃ o∈os,o.insert=true∧o.item=x:=by
  revert x
  have key : ∀ (os2 os1:List TOp) (s:RS),(∀ x∈s.here++s.gone,∃ o∈os1,o.insert=true∧o.item=x)→∀ x∈(os2.foldl stepR s).gone,∃ o∈os1++os2,o.insert=true∧o.item=x:=by
    intro os2
    induction os2 with
    | nil => intro os1 s h x hx; rw [List.append_nil]; exact h x (List.mem_append_right _ hx)
    | cons o os2 ih =>
      intro os1 s h x hx
      have:=ih (os1++[o]) (stepR s o) (fun y hy=>?_) x hx
      · rwa [List.append_assoc] at this
      · unfold stepR at hy
        split at hy
        · rename_i ho
          rcases List.mem_append.1 hy with hy | hy
          · rcases List.mem_cons.1 ((sins_perm _ _).mem_iff.1 hy) with rfl | hy
            · exact ⟨o,by simp,ho,rfl⟩
            · obtain ⟨o',g1,g2⟩:=h y (List.mem_append_left _ hy);exact ⟨o',List.mem_append_left _ g1,g2⟩
          · obtain ⟨o',g1,g2⟩:=h y (List.mem_append_right _ hy);exact ⟨o',List.mem_append_left _ g1,g2⟩
        · split at hy
          · rename_i z t hz
            have:y∈s.here++s.gone:=by
              rw [hz]
              rcases List.mem_append.1 hy with hy | hy
              · exact List.mem_append_left _ (List.mem_cons_of_mem _ hy)
              · rcases List.mem_append.1 hy with hy | hy
                · exact List.mem_append_right _ hy
                · rw [List.mem_singleton.1 hy];simp
            obtain ⟨o',g1,g2⟩:=h y this;exact ⟨o',List.mem_append_left _ g1,g2⟩
          · rename_i hz
            obtain ⟨o',g1,g2⟩:=h y (List.mem_append_right _ (by simpa using hy));exact ⟨o',List.mem_append_left _ g1,g2⟩
  intro x hx
  have:=key os [] ⟨[],[],0,[]⟩ (fun y hy=>by cases hy) x hx
  simpa using this
theorem runR_part (os:List TOp) {q:TQueue} {m:List TMark} {E c:Int} {B:Nat} (h:QOk q m E c B) (ho:m.map (·.op)=os):((runR os).here++(runR os).gone).Nodup:=by
  have r:=run_cert h.rep.dist h.cert
  rw [ho] at r
  rw [(r.1.append r.2.1).nodup_iff]
  refine List.nodup_append.2 ⟨hereI_nodup h.rep.dist,goneI_nodup h.rep.dist,fun a ha b hb e=>?_⟩
  subst e
  obtain ⟨i,x,h1,h2,h3⟩:=mem_hereI.1 ha
  obtain ⟨j,y,h4,h5,h6⟩:=mem_goneI.1 hb
  have:=h.rep.dist i j x y h1 h4 h2.1 h5.1 (h3.trans h6.symm)
  subst this
  rw [h1] at h4;cases h4
  have h7:=h5.2;rw [h2.2] at h7;cases h7
where
  goneI_nodup : ∀ {m:List TMark},Dist m→(goneI m).Nodup:=fun {m} hd=>by
    unfold goneI
    have hp:m.Pairwise (fun x y=>x.op.insert=true→y.op.insert=true→x.op.item≠y.op.item):=List.pairwise_iff_getElem.2 (fun i j hi hj hij h1 h2 h3=>by
      have:=hd i j _ _ (List.getElem?_eq_getElem hi) (List.getElem?_eq_getElem hj) h1 h2 h3
      omega)
    refine (List.pairwise_map).2 ?_
    refine (List.Pairwise.imp_of_mem (fun {a b} ha hb h=>?_) (hp.filter _))
    have h1:=(List.mem_filter.1 ha).2
    have h2:=(List.mem_filter.1 hb).2
    simp only [Bool.and_eq_true] at h1 h2
    exact h h1.1 h2.1
end Go.Proofs.YtgjbibabegabnaaGreat
namespace Go.Proofs.YtgjbibabegabnaaGreat
open Go Go.Proofs.YtgjbibabegabnaaGreat.Sx
theorem hTree_grow {Q:List TQueue} {e:THp} {t:TS TSlot TSize} (q:TQueue) (h:hTree Q e=some t):hTree (Q++[q]) e=some t:=by
  unfold hTree at h ⊢
  obtain ⟨q0,h1,h2⟩:=Option.bind_eq_some_iff.1 h
  rw [List.getElem?_append_left (List.getElem?_eq_some_iff.1 h1).1,h1];exact h2
theorem VOk.grow {Q:List TQueue} {vs:List (TPart×List TItem)} (h:VOk Q vs) (q:TQueue):VOk (Q++[q]) vs :=
  ⟨fun v hv=>by obtain ⟨t,h1,h2⟩:=h.ok v hv;exact ⟨t,hTree_grow q h1,h2⟩,h.len⟩
theorem VOk.parts {Q:List TQueue} {vs:List (TPart×List TItem)} (h:VOk Q vs):partsIn Q.length (fsts vs)=true:=by
  unfold partsIn fsts
  rw [List.all_map]
  refine List.all_eq_true.2 (fun v hv=>?_)
  obtain ⟨t,h1,_⟩:=h.ok v hv
  unfold hTree at h1
  obtain ⟨q0,h2,_⟩:=Option.bind_eq_some_iff.1 h1
  exact decide_eq_true (List.getElem?_eq_some_iff.1 h2).1
theorem new_at (Q:List TQueue) (q:TQueue):(Q++[q])[Q.length]? = some q:=by rw [List.getElem?_append_right (Nat.le_refl _),Nat.sub_self];rfl
theorem delsO_len (os:List TOp):(delsO os).length≤os.length:=List.length_filter_le _ _
structure Vw0 (Q:List TQueue) (vs:List (TPart×List TItem)) (a:List TOp):Prop where
  ok:VOk Q vs
  is:(itm vs).Perm (runR a).here
  nd:(runR a).here.Nodup
theorem Vw0.grow {Q:List TQueue} {vs:List (TPart×List TItem)} {a:List TOp} (h:Vw0 Q vs a) (q:TQueue):Vw0 (Q++[q]) vs a:=⟨h.ok.grow q,h.is,h.nd⟩
theorem Vw0.len {Q:List TQueue} {vs:List (TPart×List TItem)} {a:List TOp} (h:Vw0 Q vs a):fuse_Views_Len.f K1 Q ⟨fsts vs⟩=some ((runR a).here.length:Int):=by rw [vlen_ok h.ok,h.is.length_eq]
theorem Vw0.none (Q:List TQueue):Vw0 Q [] []:=⟨⟨fun v hv=>(by cases hv),by decide⟩,List.Perm.refl _,List.nodup_nil⟩
def FreshQ (a os:List TOp):Prop:=∀ x∈a,x.insert=true→∀ o∈os,o.insert=true→x.item≠o.item
theorem here_mem {a:List TOp} {x:TItem} (h:x∈(runR a).here) : ∃ o∈a,o.insert=true∧o.item=x:=by
  have:x∈a.foldl hereS []:=by rw [← hereS_fold a ⟨[],[],0,[]⟩];exact h
  rcases hereS_mem this with h | h
  · cases h
  · exact h
theorem Vw0.step {Q : List TQueue} {vs : List (TPart × List TItem)} {a os : List TOp} (h : Vw0 Q vs a) {j : Nat} {q : TQueue} (hq : Q[j]? = some q) {m : List TMark} {E c : Int} {B : Nat} (hk : QOk q m E c B) (ho : m.map (·.op) = os) (hf : FreshQ a os) (hlen : vs.length + 2 < 1000) :
    ∃ vs',fuse_Views_Then.f K1 Q ⟨fsts vs⟩ ⟨j,1⟩=some ⟨fsts vs'⟩∧Vw0 Q vs' (a++os)∧vs'.length≤vs.length+2:=by
  have hs:=qst_of hk ho
  have hl:os.length≤100:=by rw [← ho,List.length_map];exact hk.rep.lim
  have hd:=delsO_len os
  have hpart:=runR_part os hk ho
  have dj : ∀ x∈(runR a).here,∀ y∈(runR os).here++(runR os).gone,x≠y:=by
    intro x hx y hy e
    obtain ⟨o1,g1,g2,g3⟩:=here_mem hx
    obtain ⟨o2,g4,g5,g6⟩ : ∃ o∈os,o.insert=true∧o.item=y:=by
      rcases List.mem_append.1 hy with hy | hy
      · exact here_mem hy
      · exact gone_mem hy
    exact hf o1 g1 g2 o2 g4 g5 (g3.trans (e.trans g6.symm))
  have hp2:=List.nodup_append.1 hpart
  have n1:((runR a).here++srt (runR os).gone).Nodup:=List.nodup_append.2 ⟨h.nd,(srt_perm _).nodup_iff.2 hp2.2.1,fun x hx y hy=>dj x hx y (List.mem_append_right _ ((srt_perm _).mem_iff.1 hy))⟩
  obtain ⟨vs',r1,r2,r3,r4⟩:=then_ok h.ok hq hs (by unfold delN;omega) (((h.is.append_right _).nodup_iff).2 n1) hlen
  have e:fuseI (itm vs) (runR os).here (srt (runR os).gone) (delN os)=(runR (a++os)).here:=by
    rw [runR_app,fuse_run _ (runR_sorted a)]
    unfold fuseI
    rw [srt_eq (h.is.append (srt_perm (runR os).gone))]
  rw [e] at r3
  refine ⟨vs',r1,⟨r2,r3,?_⟩,r4⟩
  rw [← e]
  unfold fuseI
  refine (srt_perm _).nodup_iff.2 (List.nodup_append.2 ⟨hp2.1,?_,fun x hx y hy=>?_⟩)
  · exact (List.drop_sublist _ _).nodup ((srt_perm _).nodup_iff.2 (((h.is.append_right _).nodup_iff).2 n1))
  · have hy':=(srt_perm _).mem_iff.1 (List.mem_of_mem_drop hy)
    rcases List.mem_append.1 hy' with hy' | hy'
    · exact fun e=>dj y (h.is.mem_iff.1 hy') x (List.mem_append_left _ hx) e.symm
    · exact hp2.2.2 x hx y ((srt_perm _).mem_iff.1 hy')
theorem srtBy_srt (l:List TItem):srtBy isgn l=srt l:=by
  refine sorted_perm_eq ((srtBy_sorted swoI l).imp (fun h=>not_ilt.1 (fun h2=>h (isgnL.2 h2)))) (srt_sorted l) ((srtBy_perm swoI l).trans (srt_perm l).symm)
theorem itemSorted (l:List TItem) (hl:l.length<1000000000):item_Sorted.f K1 l=some (srt l):=by
  unfold item_Sorted.f
  rw [decide_eq_true (by omega),cond_true,srtBy_srt]
theorem Sh.items {t:TS TSlot TSize} {T:List TItem} (h:Sh t T):shelf_Items.f K1 t.p t.r=some T:=by
  obtain ⟨c,B,g⟩:=h.ex
  have:=sitems g (by have:=h.len;simp;omega)
  rw [this,List.map_map]
  congr 1
  exact List.map_id'' (fun _=>rfl) T
theorem vitems_loop {Q : List TQueue} {vs : List (TPart × List TItem)} (h : VOk Q vs) : ∀ (d i n : Nat), i + d = vs.length → d < n →
    fuse_Views_Items.l0 K1 Q ⟨fsts vs⟩ n (itm (vs.take i),(i:Int))=some (itm vs)
  | d, i, 0, _, h => by omega
  | 0, i, n + 1, hi, _ => by
    have e:=List.take_of_length_le (l:=vs) (i:=i) (by omega)
    simp only [fuse_Views_Items.l0,List.length_map,e]
    rw [dec_nlt (by omega)];rfl
  | d + 1, i, n + 1, hi, hn => by
    obtain ⟨v,hv,_⟩:=drop_cons (l:=vs) (i:=i) (by omega)
    have ho:=h.ok v (List.mem_of_getElem? hv)
    have ha:=ahead_ok ho
    obtain ⟨t,g1,g2⟩:=id ho
    have hb:=g2.len
    have hp:=pit_len v.1 v.2
    have h1:=h.itm_lt i
    have hl:=h.len
    obtain ⟨Pp,hP⟩:=pit_drop (p:=v.1) g2
    have hlen:v.2.length=Pp.length+(pit v.1 v.2).length:=by
      have:=congrArg List.length hP;simpa using this
    have e1:(v.2.drop (v.2.length - (pit v.1 v.2).length)).take (v.2.length - (v.2.length - (pit v.1 v.2).length))=pit v.1 v.2:=by
      rw [List.take_of_length_le (by rw [List.length_drop];omega)]
      have:v.2.length - (pit v.1 v.2).length=Pp.length:=by omega
      rw [this]
      conv=>lhs;arg 2;rw [hP]
      exact List.drop_left ..
    simp only [fuse_Views_Items.l0,List.length_map]
    rw [dec_lt (by omega),cond_true,atL_fst hv,Option.bind_some,g1,Option.bind_some,g2.items,Option.bind_some,ha,Option.bind_some,nat_in (by omega),cond_true,Int.toNat_natCast,e1,decide_eq_true (by omega),cond_true,w64_succ (by omega),← vtake hv]
    exact vitems_loop h d (i+1) n (by omega) (by omega)
theorem vitems_ok {Q:List TQueue} {vs:List (TPart×List TItem)} (h:VOk Q vs):fuse_Views_Items.f K1 Q ⟨fsts vs⟩=some (srt (itm vs)):=by
  have:=vitems_loop h vs.length 0 K1 (by omega) (by have:=h.len;unfold K1;omega)
  have hl:=h.itm_lt vs.length
  rw [List.take_of_length_le (Nat.le_refl _)] at hl
  unfold fuse_Views_Items.f
  replace this:fuse_Views_Items.l0 K1 Q ⟨fsts vs⟩ K1 (([]:List TItem),0)=_:=this
  rw [this,Option.bind_some,itemSorted _ (by omega)];rfl
theorem Vw0.srt {Q:List TQueue} {vs:List (TPart×List TItem)} {a:List TOp} (h:Vw0 Q vs a):Go.Proofs.YtgjbibabegabnaaGreat.srt (itm vs)=(runR a).here:=(srt_of (runR_sorted a) h.is.symm).symm
theorem Vw0.at {Q:List TQueue} {vs:List (TPart×List TItem)} {a:List TOp} (h:Vw0 Q vs a) (k:Int):fuse_Views_At.f K1 Q ⟨fsts vs⟩ k=some (atI (runR a).here k):=by
  rw [vat_ok h.ok (h.is.nodup_iff.2 h.nd),h.srt]
theorem Vw0.min {Q:List TQueue} {vs:List (TPart×List TItem)} {a:List TOp} (h:Vw0 Q vs a):fuse_Views_Min.f K1 Q ⟨fsts vs⟩=some (atI (runR a).here 0):=by
  unfold fuse_Views_Min.f;rw [h.at];rfl
theorem Vw0.size {Q:List TQueue} {vs:List (TPart×List TItem)} {a:List TOp} (h:Vw0 Q vs a):(runR a).here.length<999001:=by
  have hl:=h.ok.itm_lt vs.length
  rw [List.take_of_length_le (Nat.le_refl _),h.is.length_eq] at hl;exact hl
theorem same_loop13 {Q : List TQueue} {vs : List (TPart × List TItem)} {a : List TOp} (h : Vw0 Q vs a) : ∀ (d i n : Nat), i + d = (runR a).here.length + 1 → d < n →
    Lw13_Same.l0 K1 Q ⟨fsts vs⟩ (runR a).here n (i:Int)=some (Sum.inr ())
  | d, i, 0, _, h => by omega
  | 0, i, n + 1, hi, _ => by
    simp only [Lw13_Same.l0]
    rw [decide_eq_false (by omega)];rfl
  | d + 1, i, n + 1, hi, hn => by
    have hs:=h.size
    simp only [Lw13_Same.l0]
    rw [decide_eq_true (by omega),cond_true,h.at,Option.bind_some,decide_eq_true (by omega),cond_true,Option.bind_some,w64_succ (by omega)]
    have ih:=same_loop13 h d (i+1) n (by omega) (by omega)
    unfold atI
    rw [if_neg (by omega),Int.toNat_natCast]
    by_cases hlt:i<(runR a).here.length
    · obtain ⟨x,hx,_⟩:=drop_cons (l:=(runR a).here) (i:=i) hlt
      have e:decide ((i:Int)<((runR a).here.length:Int))=true:=decide_eq_true (by omega)
      simp only [hx,e,atL_nat hx,Option.bind_some,beq_self_eq_true,Bool.not_true,cond_false,cond_true,Bool.and_true,Bool.and_self]
      exact ih
    · have e:decide ((i:Int)<((runR a).here.length:Int))=false:=decide_eq_false (by omega)
      have hn0:(runR a).here[i]? = none:=List.getElem?_eq_none (by omega)
      simp only [hn0,e,beq_self_eq_true,Bool.not_true,cond_false,Bool.not_false,cond_true]
      exact ih
theorem same_ok13 {Q:List TQueue} {vs:List (TPart×List TItem)} {a:List TOp} (h:Vw0 Q vs a):Lw13_Same.f K1 Q ⟨fsts vs⟩ (runR a).here=some true:=by
  have hs:=h.size
  have hl:Lw13_Same.l0 K1 Q ⟨fsts vs⟩ (runR a).here K1 (-1)=some (Sum.inr ()):=by
    have key : ∀ n,1000000<n+1→Lw13_Same.l0 K1 Q ⟨fsts vs⟩ (runR a).here (n+1) (-1)=some (Sum.inr ()):=by
      intro n hn
      simp only [Lw13_Same.l0]
      rw [decide_eq_true (by omega),cond_true,h.at,Option.bind_some]
      have e1:decide ((-1:Int)≥0)=false:=rfl
      have e2:w64 (-1+1)=((0:Nat):Int):=rfl
      rw [e1,e2]
      have e3:atI (runR a).here (-1)=(zTItem,false):=rfl
      rw [e3]
      exact same_loop13 h ((runR a).here.length+1) 0 n (by omega) (by omega)
    exact key 1000000 (by omega)
  unfold Lw13_Same.f
  rw [h.len,Option.bind_some,bne_self_eq_false,cond_false,vitems_ok h.ok,h.srt,Option.bind_some,refSame _ (by omega),Option.bind_some]
  simp only [Bool.not_true,cond_false,Option.bind_some,Sum.elim_inr,hl,h.min]
  unfold atI
  rw [if_neg (by omega)]
  cases hr:(runR a).here with
  | nil => rfl
  | cons x t =>
    have e:decide ((((x::t).length:Nat):Int)>0)=true:=decide_eq_true (by simp)
    have e0:atL (x::t) 0=some x:=rfl
    simp only [e,e0,Int.toNat_zero,List.getElem?_cons_zero,beq_self_eq_true,cond_true,Bool.not_true,cond_false,Option.bind_some,Bool.and_true]
end Go.Proofs.YtgjbibabegabnaaGreat
namespace Go.Proofs.YtgjbibabegabnaaGreat
open Go Go.Proofs.YtgjbibabegabnaaGreat.Sx
def inT (tm:Int) (w:Bool) (o:TOp):Bool:=decide (o.time<tm) || (o.time == tm&&w)
def upt (tm:Int) (w:Bool) (l:List TOp):List TOp:=l.filter (inT tm w)
theorem upt_app (tm:Int) (w:Bool) (a b:List TOp):upt tm w (a++b)=upt tm w a++upt tm w b:=List.filter_append ..
theorem upt_all {tm:Int} {w:Bool} {l:List TOp} (h : ∀ o∈l,o.time<tm∨(o.time=tm∧w=true)):upt tm w l=l :=
  List.filter_eq_self.2 fun o ho=>by
    unfold inT
    rcases h o ho with h | ⟨h,h'⟩
    · rw [decide_eq_true h];rfl
    · rw [h,h',beq_self_eq_true];simp
theorem upt_none {tm:Int} {w:Bool} {l:List TOp} (h : ∀ o∈l,tm<o.time∨(o.time=tm∧w=false)):upt tm w l=[] :=
  List.filter_eq_nil_iff.2 fun o ho=>by
    unfold inT
    rcases h o ho with h | ⟨h,h'⟩
    · rw [decide_eq_false (by omega)]
      have:(o.time == tm)=false:=by rw [beq_eq_false_iff_ne];omega
      rw [this];simp
    · rw [h,h'];simp
theorem OpsOkL.fq {a os:List TOp} (h:OpsOkL (a++os)):FreshQ a os:=fun x hx hi o ho ho'=>(List.pairwise_append.1 h.item).2.2 x hx o ho hi ho'
theorem OpsOkL.right {a os:List TOp} (h:OpsOkL (a++os)):OpsOkL os:=h.sub (List.sublist_append_right _ _)
section
variable {ω Q:Type} {o:ω} {g:Bool} {l r:PT ω Q} {m:Int} {q:Q}
theorem nd_isNil:(PT.node o g l r m q).isNil=false:=rfl
theorem nd_q [Inhabited Q]:(PT.node o g l r m q).q=q:=rfl
theorem nd_lf:(PT.node o g l r m q).lf=l:=rfl
theorem nd_rt:(PT.node o g l r m q).rt=r:=rfl
theorem nd_gone:(PT.node o g l r m q).gone=g:=rfl
end
theorem nd_op {ω Q:Type} [Inhabited ω] {o:ω} {g:Bool} {l r:PT ω Q} {m:Int} {q:Q}:(PT.node o g l r m q).op=o:=rfl
theorem pI_nil (i:Nat) (t:PQ):(pI i t).isNil=t.isNil:=by cases t <;> rfl
theorem left_ok {c : Int} {B : Nat} {Q0 Q : List TQueue} {l : PQ} {j : Nat} (hp : PTok c B l) (hat : ∃ pre post, Q0 = pre ++ (pQ l ++ post) ∧ pre.length = j) (hpre : Q0 <+: Q) {vs : List (TPart × List TItem)} {a : List TOp} (hv : Vw0 Q vs a) (ho : OpsOkL (a ++ live l)) (hlen : vs.length + 2 < 1000) :
    ∃ vs1,Vw0 Q vs1 (a++live l)∧vs1.length≤vs.length+2*cnt l∧(l.isNil=true→vs1=vs)∧(l.isNil=false→(pI j l).q<Q0.length∧fuse_Views_Then.f K1 Q ⟨fsts vs⟩ ⟨(pI j l).q,1⟩=some ⟨fsts vs1⟩):=by
  cases l with
  | nil => exact ⟨vs, by rw [show a ++ live .nil = a from List.append_nil a]; exact hv, by simp [cnt], fun _ => rfl, fun h => Bool.noConfusion h⟩
  | node lo lg ll lr lm lq =>
    obtain ⟨pre,post,e,hj⟩:=hat
    obtain ⟨⟨m,E,hq,hm⟩,_⟩:=hp
    have h0:Q0[j]? = some lq:=by
      rw [e,List.getElem?_append_right (by omega),hj,Nat.sub_self];rfl
    have hlt:j<Q0.length:=(List.getElem?_eq_some_iff.1 h0).1
    have h1:Q[j]? = some lq:=by
      obtain ⟨X,hX⟩:=hpre
      rw [← hX,List.getElem?_append_left hlt];exact h0
    obtain ⟨vs1,g1,g2,g3⟩:=hv.step h1 hq hm ho.fq hlen
    exact ⟨vs1,g2,by simp only [cnt];omega,fun h=>Bool.noConfusion h,fun _=>⟨hlt,g1⟩⟩
theorem op_ok {c : Int} (hc2 : c ≤ 65536) (hc : 1 ≤ c) {o : TOp} {Q : List TQueue} {vs1 : List (TPart × List TItem)} {a1 : List TOp} (hv : Vw0 Q vs1 a1) (ho : OpsOkL (a1 ++ [o])) (hlen : vs1.length + 2 < 1000) :
    ∃ qn vs2,past_Past_queue.f K1 c [o]=some qn∧fuse_Views_Then.f K1 (Q++[qn]) ⟨fsts vs1⟩ ⟨Q.length,1⟩=some ⟨fsts vs2⟩∧Vw0 (Q++[qn]) vs2 (a1++[o])∧vs2.length≤vs1.length+2:=by
  obtain ⟨qn,e1,m,E,hq,hm⟩:=queue_ok [o] ho.right c (by simpa using hc) hc2 (by simp)
  obtain ⟨vs2,g1,g2,g3⟩:=(hv.grow qn).step (new_at Q qn) hq hm ho.fq hlen
  exact ⟨qn,vs2,e1,g1,g2,g3⟩
theorem until_loop {c : Int} (hc2 : c ≤ 65536) {B : Nat} (Q0 : List TQueue) (q0 : TPastI) (hq0 : q0.capacity = c) (tm : Int) (w : Bool) : ∀ (n : Nat) (t : PQ) (i : Nat) (Q : List TQueue) (vs : List (TPart × List TItem)) (a : List TOp), cnt t < n → PTok c B t → STm t → (∃ pre post, Q0 = pre ++ (pQ t ++ post) ∧ pre.length = i) → Q0 <+: Q → Vw0 Q vs a → OpsOkL (a ++ live t) → vs.length + 4 * cnt t < 900 →
    ∃ vs' Q',past_Past_until.l0 K1 Q0 q0 tm w n (fsts vs,pI i t,Q)=some (fsts vs',Q')∧Q <+: Q'∧Vw0 Q' vs' (a++upt tm w (live t))
  | 0, t, i, Q, vs, a, h, _, _, _, _, _, _, _ => by omega
  | n + 1, .nil, i, Q, vs, a, _, _, _, _, _, hv, _, _ => by
    refine ⟨vs,Q,?_,List.prefix_refl _,?_⟩
    · simp only [past_Past_until.l0,pI,PT.isNil,Bool.not_true,cond_false]
    · rw [show a++upt tm w (live .nil)=a from List.append_nil a];exact hv
  | n + 1, .node o g l r m q, i, Q, vs, a, hn, hp, hs, hat, hpre, hv, ho, hb => by
    obtain ⟨hq,hm,hpl,hpr⟩:=hp
    obtain ⟨s1,s2,s3,s4⟩:=hs.parts
    obtain ⟨pre,post,eQ,hi⟩:=hat
    have hcn:cnt l+1+cnt r<n+1:=hn
    have hb':vs.length+4*(cnt l+1+cnt r)<900:=hb
    have hatl : ∃ pre post,Q0=pre++(pQ l++post)∧pre.length=i+1:=⟨pre++[q],pQ r++post,by rw [eQ];simp [pQ],by simp [hi]⟩
    have hatr : ∃ pre post,Q0=pre++(pQ r++post)∧pre.length=i+1+(pQ l).length:=⟨pre++q::pQ l,post,by rw [eQ];simp [pQ],by simp [hi];omega⟩
    have hiQ:i<Q0.length:=by rw [eQ];simp [pQ,← hi]
    have eL:live (PT.node o g l r m q)=live l++((bif g then [] else [o])++live r):=rfl
    have hlr : ∀ x∈live l,x.time<o.time:=fun x hx=>s3 _ (live_tim l x hx)
    have hrr : ∀ x∈live r,o.time<x.time:=fun x hx=>s4 _ (live_tim r x hx)
    have hgo : ∀ x∈(bif g then [] else [o]:List TOp),x=o:=fun x hx=>by cases g <;> simp at hx;exact hx
    by_cases hin:tm<o.time∨(tm=o.time∧w=false)
    · -- to the left
      have hno:upt tm w ((bif g then [] else [o])++live r)=[]:=upt_none fun x hx=>by
        rcases List.mem_append.1 hx with hx | hx
        · rw [hgo x hx];rcases hin with h | ⟨h,h'⟩
          · exact .inl h
          · exact .inr ⟨h.symm,h'⟩
        · have:=hrr x hx;exact .inl (by rcases hin with h | ⟨h,_⟩ <;> omega)
      obtain ⟨vs',Q',e1,e2,e3⟩:=until_loop hc2 Q0 q0 hq0 tm w n l (i+1) Q vs a (by omega) hpl s1 hatl hpre hv (ho.sub (by rw [eL];exact (List.Sublist.refl a).append (List.sublist_append_left _ _))) (by omega)
      refine ⟨vs',Q',?_,e2,by rw [eL,upt_app,hno,List.append_nil];exact e3⟩
      simp only [past_Past_until.l0,pI,nd_isNil,nd_q,nd_op,nd_lf,nd_rt,nd_gone,Bool.not_false,cond_true]
      rcases hin with h | ⟨h,h'⟩
      · simp only [hiQ,h,decide_true,cond_true];exact e1
      · have h1:(tm == o.time)=true:=by rw [h];exact beq_self_eq_true _
        have h2 : ¬ tm<o.time:=by omega
        subst h'
        simp only [hiQ,h1,h2,decide_true,decide_false,cond_true,cond_false,Bool.not_false];exact e1
    · -- all of the left,the operation,to the right
      have hin':o.time<tm∨(tm=o.time∧w=true):=by
        rcases Int.lt_trichotomy o.time tm with h | h | h
        · exact .inl h
        · refine .inr ⟨h.symm,?_⟩
          cases hw:w
          · exact absurd (.inr ⟨h.symm,hw⟩) hin
          · rfl
        · exact absurd (.inl h) hin
      have hyes:upt tm w (live l++(bif g then [] else [o]))=live l++(bif g then [] else [o]):=upt_all fun x hx=>by
        rcases List.mem_append.1 hx with hx | hx
        · have:=hlr x hx;exact .inl (by rcases hin' with h | ⟨h,_⟩ <;> omega)
        · rw [hgo x hx];rcases hin' with h | ⟨h,h'⟩
          · exact .inl h
          · exact .inr ⟨h.symm,h'⟩
      have eL2:live (PT.node o g l r m q)=(live l++(bif g then [] else [o]))++live r:=by rw [eL,List.append_assoc]
      obtain ⟨vs1,v1,v2,v3,v4⟩:=left_ok hpl hatl hpre hv (ho.sub (by rw [eL];exact (List.Sublist.refl a).append (List.sublist_append_left _ _))) (by omega)
      have hpar:decide (partsIn Q.length (fsts vs1)=true)=true:=decide_eq_true v1.ok.parts
      have hpar0:decide (partsIn Q.length (fsts vs)=true)=true:=decide_eq_true hv.ok.parts
      have hnil:decide (partsIn Q.length ([]:List TPart)=true)=true:=decide_eq_true rfl
      have hQQ:Q0.length≤Q.length:=hpre.length_le
      have hord : ¬ tm<o.time:=by rcases hin' with h | ⟨h,_⟩ <;> omega
      have oaL:OpsOkL ((a++live l)++((bif g then [] else [o])++live r)):=by rw [List.append_assoc,← eL];exact ho
      cases g with
      | true =>
        obtain ⟨vs',Q',e1,e2,e3⟩:=until_loop hc2 Q0 q0 hq0 tm w n r (i+1+(pQ l).length) Q vs1 (a++live l) (by omega) hpr s2 hatr hpre v1 (by simpa using oaL) (by omega)
        refine ⟨vs',Q',?_,e2,by rw [eL2,upt_app,hyes];simpa using e3⟩
        simp only [past_Past_until.l0,pI,nd_isNil,nd_q,nd_op,nd_lf,nd_rt,nd_gone,Bool.not_false,Bool.not_true,cond_true,cond_false,hiQ,hord,decide_true,decide_false,cond_true,cond_false,pI_nil]
        have fin : ∀ b:Bool,l.isNil=b→(bif !b then bif decide ((pI (i+1) l).q<Q0.length) then (fuse_Views_Then.f K1 Q ⟨fsts vs⟩ ⟨(pI (i+1) l).q,1⟩).bind fun x3=>past_Past_until.l0 K1 Q0 q0 tm w n (x3.parts,pI (i+1+(pQ l).length) r,Q) else none else past_Past_until.l0 K1 Q0 q0 tm w n (fsts vs,pI (i+1+(pQ l).length) r,Q))=some (fsts vs',Q'):=fun b hb=>by
          cases b with
          | true => rw [v3 hb] at e1; exact e1
          | false =>
            obtain ⟨z1,z2⟩:=v4 hb
            simp only [Bool.not_false,cond_true,z1,decide_true,z2,Option.bind_some];exact e1
        rcases hin' with h | ⟨h,h'⟩
        · have:(tm == o.time)=false:=by rw [beq_eq_false_iff_ne];omega
          rw [this,cond_false];exact fin _ rfl
        · have:(tm == o.time)=true:=by rw [h];exact beq_self_eq_true _
          subst h'
          rw [this,cond_true,Bool.not_true,cond_false];exact fin _ rfl
      | false =>
        have hc1:(1:Int)≤c:=by
          have:=hq.lim.2.1
          have h2:1≤(live (PT.node o false l r m q)).length:=by rw [eL];simp;omega
          omega
        obtain ⟨qn,vs2,o1,o2,o3,o4⟩:=op_ok hc2 hc1 v1 (oaL.sub (by rw [cond_false];exact (List.Sublist.refl _).append (List.sublist_append_left _ _))) (by omega)
        rw [← hq0] at o1
        obtain ⟨vs',Q',e1,e2,e3⟩:=until_loop hc2 Q0 q0 hq0 tm w n r (i+1+(pQ l).length) (Q++[qn]) vs2 ((a++live l)++[o]) (by omega) hpr s2 hatr (hpre.trans (List.prefix_append _ _)) o3 (by simpa using oaL) (by omega)
        refine ⟨vs',Q',?_,(List.prefix_append _ _).trans e2,by rw [eL2,upt_app,hyes];simpa using e3⟩
        simp only [past_Past_until.l0,pI,nd_isNil,nd_q,nd_op,nd_lf,nd_rt,nd_gone,Bool.not_false,Bool.not_true,cond_true,cond_false,hiQ,hord,decide_true,decide_false,cond_true,cond_false,pI_nil]
        rcases hin' with h | ⟨h,h'⟩
        · have:(tm == o.time)=false:=by rw [beq_eq_false_iff_ne];omega
          rw [this,cond_false]
          cases hb:l.isNil with
          | true =>
            rw [v3 hb] at o2
            simp only [Bool.not_true,cond_false,o1,Option.bind_some,hpar0,cond_true,o2,hnil,hiQ,decide_true]
            exact e1
          | false =>
            obtain ⟨z1,z2⟩:=v4 hb
            simp only [Bool.not_false,cond_true,z1,z2,o1,Option.bind_some,hpar,hpar0,o2,hnil,hiQ,Nat.lt_of_lt_of_le z1 hQQ,decide_true]
            exact e1
        · have:(tm == o.time)=true:=by rw [h];exact beq_self_eq_true _
          subst h'
          rw [this,cond_true,Bool.not_true,cond_false]
          cases hb:l.isNil with
          | true =>
            rw [v3 hb] at o2
            simp only [Bool.not_true,cond_false,o1,Option.bind_some,hpar0,cond_true,o2,hnil,hiQ,decide_true]
            exact e1
          | false =>
            obtain ⟨z1,z2⟩:=v4 hb
            simp only [Bool.not_false,cond_true,z1,z2,o1,Option.bind_some,hpar,hpar0,o2,hnil,hiQ,Nat.lt_of_lt_of_le z1 hQQ,decide_true]
            exact e1
theorem live_ok {c:Int} {B:Nat} {p:TPast} (h:PastOk c B p):OpsOkL (live p.root):=by
  obtain ⟨pc,t⟩:=p
  obtain ⟨_,hok,_⟩:=h
  cases t with
  | nil => exact ⟨List.Pairwise.nil, List.Pairwise.nil, fun o ho => by cases ho⟩
  | node p g l r m q => exact hok.1.okl
theorem until_ok {c : Int} (hc2 : c ≤ 65536) {B : Nat} {p : TPast} (h : PastOk c B p) (hb : cnt p.root < 200) (X : List TQueue) (tm : Int) (w : Bool) :
    ∃ vs Q,past_Past_until.f K1 (pQ p.root++X) (TPastI.mk p.capacity (pI 0 p.root)) tm w=some (⟨fsts vs⟩,Q)∧(pQ p.root++X) <+: Q∧Vw0 Q vs (upt tm w (live p.root)):=by
  obtain ⟨vs,Q,e1,e2,e3⟩:=until_loop hc2 (pQ p.root++X) (TPastI.mk p.capacity (pI 0 p.root)) h.cap tm w K1 p.root 0 (pQ p.root++X) [] [] (by unfold K1;omega) h.ok h.st ⟨[],X,rfl,rfl⟩ (List.prefix_refl _) (Vw0.none _) (by simpa using live_ok h) (by simp only [List.length_nil];omega)
  refine ⟨vs,Q,?_,e2,by simpa using e3⟩
  have hnone:fuse_None.f K1=some ⟨[]⟩:=rfl
  have e1':past_Past_until.l0 K1 (pQ p.root++X) (TPastI.mk p.capacity (pI 0 p.root)) tm w K1 ([],pI 0 p.root,pQ p.root++X)=some (fsts vs,Q):=e1
  unfold past_Past_until.f
  rw [hnone]
  simp only [Option.bind_some,e1']
end Go.Proofs.YtgjbibabegabnaaGreat
namespace Go.Proofs.YtgjbibabegabnaaGreat
open Go Go.Proofs.YtgjbibabegabnaaGreat.Sx
theorem oat_ok {l : List TOp} (hs : TS1 l) (hl : l.length < 100000) (t : Int) :
    (∃ A D,l=A++D∧(∀ x∈A,x.time<t)∧(∀ x∈D,t<x.time)∧(∀ x∈l,x.time≠t)∧R12_At.f K1 l t=some (-1)) ∨
    ∃ A y D,l=A++y::D∧y.time=t∧(∀ x∈A,x.time<t)∧(∀ x∈D,t<x.time)∧R12_At.f K1 l t=some (A.length:Int):=by
  obtain ⟨v,h1,h2⟩:=oat_loop t l (by omega) l.length 0 K1 (by simp) (by unfold K1;omega) (by simp)
  replace h1:R12_At.l0 K1 l t K1 0=some v:=h1
  unfold R12_At.f
  rw [h1]
  rcases h2 with ⟨rfl,h2⟩ | ⟨j,y,rfl,h2,h3,h4⟩
  · obtain ⟨A,D,e,hA,hD⟩:=split_new l t hs h2
    exact .inl ⟨A,D,e,hA,hD,h2,rfl⟩
  · obtain ⟨hj,hy⟩:=List.getElem?_eq_some_iff.1 h2
    have e:l=l.take j++y::l.drop (j+1):=by
      rw [← hy,← List.drop_eq_getElem_cons hj,List.take_append_drop]
    have hlen:(l.take j).length=j:=by rw [List.length_take];omega
    have hs':=hs
    rw [e] at hs'
    obtain ⟨_,p2,p3⟩:=List.pairwise_append.1 hs'
    refine .inr ⟨l.take j,y,l.drop (j+1),e,h3,fun x hx=>?_,fun x hx=>?_,by rw [hlen];rfl⟩
    · rw [← h3];exact p3 x hx y List.mem_cons_self
    · rw [← h3];exact (List.pairwise_cons.1 p2).1 x hx
theorem ohas_ok (x:TItem) (l:List TOp) (hl:l.length<100000):(R12_Has.f K1 l x=some true∧∃ y∈l,y.insert=true∧y.item=x)∨(R12_Has.f K1 l x=some false∧∀ y∈l,y.insert=true→y.item≠x):=by
  obtain ⟨v,h1,h2⟩:=has_loop x l (by omega) l.length 0 K1 (by simp) (by unfold K1;omega) (by simp)
  replace h1:R12_Has.l0 K1 l x K1 0=some v:=h1
  unfold R12_Has.f
  rw [h1]
  rcases h2 with ⟨rfl,h2⟩ | ⟨rfl,y,h2,h3,h4⟩
  · exact .inr ⟨rfl,h2⟩
  · exact .inl ⟨rfl,y,h2,h3,h4⟩
theorem add_no {c : Int} {B : Nat} {q : TQueue} {os : List TOp} (h : QIs c B q os) (o : TOp) :
    ((os.length:Int)=c→past_add.f K1 q o=some (10,q))∧((os.length:Int)≠c→(∃ y∈os,y.time=o.time)→past_add.f K1 q o=some (11,q)) ∧
    ((os.length:Int)≠c→(∀ y∈os,y.time≠o.time)→o.insert=true→(∃ y∈os,y.insert=true∧y.item=o.item)→past_add.f K1 q o=some (2,q)):=by
  have hlim:=h.lim
  obtain ⟨m,E,hq,rfl⟩:=h
  obtain ⟨A,M,D,hc⟩:=mcut hq.rep.marks (by have:=hq.rep.lim;omega) o.time
  obtain ⟨i1,i2,i3⟩:=insert_no hq.rep hc o.item
  obtain ⟨d1,d2⟩:=delete_no hq.rep hc
  rw [List.length_map]
  unfold past_add.f
  refine ⟨fun h=>?_,fun h hy=>?_,fun h hn hi hy=>?_⟩
  · cases hi:o.insert
    · rw [cond_false,d1 h];rfl
    · rw [cond_true,i1 h];rfl
  · have hM : M ≠ [] := fun hM => by
      obtain ⟨y,hy,hy'⟩:=hy
      obtain ⟨z,hz,rfl⟩:=List.mem_map.1 hy
      have:=hc.mem hz hy'
      rw [hM] at this;cases this
    cases hi:o.insert
    · rw [cond_false,d2 h hM];rfl
    · rw [cond_true,i2 h hM];rfl
  · have hM:M=[]:=hc.none (fun x hx=>hn x.op (List.mem_map_of_mem hx))
    obtain ⟨y,hy,h1,h2⟩:=hy
    obtain ⟨z,hz,rfl⟩:=List.mem_map.1 hy
    rw [hi,cond_true,i3 h hM ⟨z,hz,h1,h2⟩];rfl
theorem rev_no {c:Int} {B:Nat} {q:TQueue} {os:List TOp} (h:QIs c B q os) {t:Int} (hn : ∀ y∈os,y.time≠t):partial_Queue_Revoke.f K1 q t=some (⟨[],[]⟩,14,q):=by
  obtain ⟨m,E,hq,rfl⟩:=h
  obtain ⟨A,M,D,hc⟩:=mcut hq.rep.marks (by have:=hq.rep.lim;omega) t
  have hM:M=[]:=hc.none (fun x hx=>hn x.op (List.mem_map_of_mem hx))
  subst hM
  exact revoke_no hq.rep hc
theorem past_ins_no {c:Int} (hc0:0≤c) (hc2:c≤65536) {B:Nat} {p:TPast} (h:PastOk c B p) (o:TOp) (e:Int) (he:(e != 0)=true) (hno : ∀ (B':Nat) (q:TQueue),QIs c B' q (live p.root)→past_add.f K1 q o=some (e,q)):past_Past_insert.f K1 p o=some (e,p):=by
  obtain ⟨pc,t⟩:=p
  obtain ⟨hcap,hok,hst⟩:=h
  simp only at hcap hok hst hno
  subst hcap
  cases t with
  | nil =>
    obtain ⟨q0,a1,a2⟩:=queue_ok [] ⟨List.Pairwise.nil,List.Pairwise.nil,fun o ho=>by cases ho⟩ pc (by simpa using hc0) hc2 (by show 0<100;omega)
    simp only [past_Past_insert.f,PT.isNil,cond_true,a1,Option.bind_some,hno _ _ a2,he]
  | node p g l r m q =>
    simp only [past_Past_insert.f,PT.isNil,cond_false,PT.q,hno _ _ hok.1,Option.bind_some,he,cond_true,PT.op,PT.gone,PT.lf,PT.rt,PT.n]
theorem past_rev_no {c:Int} {B:Nat} {p:TPast} (h:PastOk c B p) {t:Int} (hn : ∀ y∈live p.root,y.time≠t):past_Past_Revoke.f K1 p t=some (14,p):=by
  obtain ⟨pc,r⟩:=p
  obtain ⟨hcap,hok,hst⟩:=h
  cases r with
  | nil => rfl
  | node p g l r m q =>
    have n0:((14:Int) != 0)=true:=rfl
    simp only [past_Past_Revoke.f,PT.isNil,cond_false,PT.q,rev_no hok.1 hn,Option.bind_some,n0,cond_true,PT.op,PT.gone,PT.lf,PT.rt,PT.n]
theorem PastOk.up {c:Int} {B B':Nat} {p:TPast} (h:PastOk c B p) (hB:B≤B') (h9:B'<900000):PastOk c B' p:=⟨h.cap,h.ok.up hB h9,h.st⟩
def doB (k:Nat) (q0:TPast) (l1:List TOp) (a2:Int) (a3:TL12Act) (t:Int):Option (List TOp×Bool×TPast):=(R12_At.f k l1 t).bind fun x3=>(R01_Rest.f k a3.kind 3).bind fun x4=>bif (x4 == 0) then ((past_Past_Insert.f k q0 t a3.x).bind fun x5=>bif ((l1.length:Int) == a2) then (some (l1,(x5.1 == 10),x5.2)) else (bif (decide (x3≥0)) then (some (l1,(x5.1 == 11),x5.2)) else ((R12_Has.f k l1 a3.x).bind fun x6=>bif x6 then (some (l1,(x5.1 == 2),x5.2)) else ((R12_Add.f k l1 (TOp.mk t true a3.x)).bind fun x7=>some (x7,(x5.1 == 0),x5.2))))) else (bif (x4 == 1) then ((past_Past_Delete.f k q0 t).bind fun x8=>bif ((l1.length:Int) == a2) then (some (l1,(x8.1 == 10),x8.2)) else (bif (decide (x3≥0)) then (some (l1,(x8.1 == 11),x8.2)) else ((R12_Add.f k l1 (TOp.mk t false zTItem)).bind fun x9=>some (x9,(x8.1 == 0),x8.2)))) else (bif (x4 == 2) then (bif (decide (x3<0)) then ((past_Past_Revoke.f k q0 t).bind fun x10=>some (l1,(x10.1 == 14),x10.2)) else ((R12_Without.f k l1 x3).bind fun x11=>(past_Past_Revoke.f k q0 t).bind fun x12=>some (x11,(x12.1 == 0),x12.2))) else (bif ((l1.length:Int) == a2) then (some (l1,(0 == 10),q0)) else (bif (decide (x3≥0)) then (some (l1,(0 == 11),q0)) else ((R12_Add.f k l1 (TOp.mk t false zTItem)).bind fun x13=>some (x13,(0 == 0),q0))))))
theorem do_eq (k:Nat) (q0:TPast) (l1:List TOp) (a2:Int) (a3:TL12Act):Lw14_do.f k q0 l1 a2 a3=bif a3.told then (bif (decide ((l1.length:Int)>0)) then ((R01_Rest.f k a3.time (l1.length:Int)).bind fun x1=>(atL l1 x1).bind fun x2=>doB k q0 l1 a2 a3 x2.time) else doB k q0 l1 a2 a3 a3.time) else doB k q0 l1 a2 a3 a3.time:=rfl
structure DoOk (c:Int) (B n:Nat) (p:TPast) (l:List TOp):Prop where
  ok:PastOk c B p
  is:live p.root=l
  cap:(l.length:Int)≤c
  cnt:cnt p.root≤n
  len:l.length≤n
theorem DoOk.up {c:Int} {B B' n n':Nat} {p:TPast} {l:List TOp} (h:DoOk c B n p l) (hB:B≤B') (h9:B'<900000) (hn:n≤n'):DoOk c B' n' p l:=⟨h.ok.up hB h9,h.is,h.cap,by have:=h.cnt;omega,by have:=h.len;omega⟩
theorem add14 {c : Int} (hc0 : 0 ≤ c) (hc2 : c ≤ 65536) {B n : Nat} {p : TPast} {l : List TOp} (h : DoOk c B n p l) (hB : 200 ≤ B) (hB9 : B + 6 < 900000) (hn : n < 90) (o : TOp) (ho : o.insert = false → o.item = zTItem) :
    ∃ e p',past_Past_insert.f K1 p o=some (e,p')∧(((l.length:Int)=c∧e=10∧p'=p)∨((l.length:Int)≠c∧(∃ y∈l,y.time=o.time)∧e=11∧p'=p)∨((l.length:Int)≠c∧(∀ y∈l,y.time≠o.time)∧o.insert=true∧(∃ y∈l,y.insert=true∧y.item=o.item)∧e=2∧p'=p) ∨
      ((l.length:Int)≠c∧(∀ y∈l,y.time≠o.time)∧(o.insert=true→∀ y∈l,y.insert=true→y.item≠o.item)∧e=0∧∀ A D,l=A++D→(∀ x∈A,x.time<o.time)→(∀ x∈D,o.time<x.time)→DoOk c (B+6) (n+1) p' (A++o::D))):=by
  obtain ⟨hok,his,hcap,hcn,hlen⟩:=h
  subst his
  by_cases h1:((live p.root).length:Int)=c
  · exact ⟨10,p,past_ins_no hc0 hc2 hok o 10 rfl (fun B' q hq=>(add_no hq o).1 h1),.inl ⟨h1,rfl,rfl⟩⟩
  by_cases h2 : ∃ y∈live p.root,y.time=o.time
  · exact ⟨11,p,past_ins_no hc0 hc2 hok o 11 rfl (fun B' q hq=>(add_no hq o).2.1 h1 h2),.inr (.inl ⟨h1,h2,rfl,rfl⟩)⟩
  have h2' : ∀ y∈live p.root,y.time≠o.time:=fun y hy e=>h2 ⟨y,hy,e⟩
  by_cases h3:o.insert=true∧∃ y∈live p.root,y.insert=true∧y.item=o.item
  · exact ⟨2,p,past_ins_no hc0 hc2 hok o 2 rfl (fun B' q hq=>(add_no hq o).2.2 h1 h2' h3.1 h3.2),.inr (.inr (.inl ⟨h1,h2',h3.1,h3.2,rfl,rfl⟩))⟩
  have h3':o.insert=true→∀ y∈live p.root,y.insert=true→y.item≠o.item:=fun hi y hy hyi e=>h3 ⟨hi,y,hy,hyi,e⟩
  obtain ⟨A,D,e,hA,hD⟩:=split_new (live p.root) o.time (live_sorted hok.st) h2'
  obtain ⟨p',r1,r2,r3,r4,r5,_⟩:=insert_past hc2 hB hB9 hok e hA hD ⟨by rw [← e];exact h1,by rw [← e];omega,by rw [← e];exact h3',ho⟩ (by rw [← e];exact hcap) (by omega) (by rw [← e];omega)
  refine ⟨0,p',r1,.inr (.inr (.inr ⟨h1,h2',h3',rfl,fun A' D' e' hA' hD'=>?_⟩))⟩
  have eA:A'=A∧D'=D:=by
    have hf : ∀ (A D:List TOp),(∀ x∈A,x.time<o.time)→(∀ x∈D,o.time<x.time)→(A++D).filter (fun x=>decide (x.time<o.time))=A∧(A++D).filter (fun x=>decide (o.time<x.time))=D:=fun A D hA hD=>by
      rw [List.filter_append,List.filter_append]
      rw [List.filter_eq_self.2 (fun x hx=>decide_eq_true (hA x hx)),List.filter_eq_nil_iff.2 (fun x hx=>by have:=hD x hx;simp;omega),List.append_nil]
      rw [List.filter_eq_nil_iff.2 (fun x hx=>by have:=hA x hx;simp;omega),List.filter_eq_self.2 (fun x hx=>decide_eq_true (hD x hx)),List.nil_append]
      exact ⟨rfl,rfl⟩
    have f1:=hf A D hA hD
    have f2:=hf A' D' hA' hD'
    rw [← e'] at f2
    rw [← e] at f1
    exact ⟨f2.1.symm.trans f1.1,f2.2.symm.trans f1.2⟩
  obtain ⟨rfl,rfl⟩:=eA
  have hl:(A'++o::D').length=(live p.root).length+1:=by rw [e];simp;omega
  exact ⟨r2,r3,by rw [hl];omega,by omega,by rw [hl];omega⟩
theorem doB_ok {c : Int} (hc0 : 0 ≤ c) (hc2 : c ≤ 65536) {B n : Nat} {p : TPast} {l : List TOp} (h : DoOk c B n p l) (hB : 200 ≤ B) (hB9 : B + 6 < 900000) (hn : n < 90) (a : TL12Act) (t : Int) :
    ∃ p' l',doB K1 p l c a t=some (l',true,p')∧DoOk c (B+6) (n+1) p' l':=by
  have hup:DoOk c (B+6) (n+1) p l:=h.up (by omega) hB9 (by omega)
  have hll:l.length<100000:=by have:=h.len;omega
  have hs:TS1 l:=by rw [← h.is];exact live_sorted h.ok.st
  obtain ⟨r,hr,hr3⟩:=refRest a.kind (n:=3) (by omega) (by omega)
  have hr':R01_Rest.f K1 a.kind 3=some (r:Int):=hr
  have hAt:=oat_ok hs hll t
  obtain ⟨v,hv,hvn⟩ : ∃ v,R12_At.f K1 l t=some v∧((v≥0∧∃ y∈l,y.time=t)∨(v = -1∧∀ y∈l,y.time≠t)):=by
    rcases hAt with ⟨A,D,_,_,_,h4,h5⟩ | ⟨A,y,D,e,hy,_,_,h5⟩
    · exact ⟨-1,h5,.inr ⟨rfl,h4⟩⟩
    · exact ⟨_,h5,.inl ⟨by omega,y,by rw [e];simp,hy⟩⟩
  unfold doB
  simp only [hv,hr',Option.bind_some]
  have d0:((10:Int) == 10)=true:=rfl
  have d1:((11:Int) == 11)=true:=rfl
  have d2:((2:Int) == 2)=true:=rfl
  have d3:((0:Int) == 0)=true:=rfl
  have d4:((14:Int) == 14)=true:=rfl
  -- additions,the same for both
  have key : ∀ o:TOp,(o.insert=false→o.item=zTItem)→o.time=t→∀ G:Option Bool,(o.insert=true→G=R12_Has.f K1 l o.item)→(o.insert=false→G=some false)→∃ p' l',((past_Past_insert.f K1 p o).bind fun x5=>bif ((l.length:Int) == c) then (some (l,(x5.1 == 10),x5.2)) else (bif (decide (v≥0)) then (some (l,(x5.1 == 11),x5.2)) else (G.bind fun x6=>bif x6 then (some (l,(x5.1 == 2),x5.2)) else ((R12_Add.f K1 l o).bind fun x7=>some (x7,(x5.1 == 0),x5.2)))))=some (l',true,p')∧DoOk c (B+6) (n+1) p' l':=fun o hod hot G hG1 hG2=>by
    obtain ⟨e,p',r1,r2⟩:=add14 hc0 hc2 h hB hB9 hn o hod
    rw [r1]
    rcases r2 with ⟨g1,rfl,rfl⟩ | ⟨g1,g2,rfl,rfl⟩ | ⟨g1,g2,g3,g4,rfl,rfl⟩ | ⟨g1,g2,g3,rfl,g4⟩
    · refine ⟨p',l,?_,hup⟩
      simp only [Option.bind_some,g1,beq_self_eq_true,cond_true,d0]
    · refine ⟨p',l,?_,hup⟩
      have hb:((l.length:Int) == c)=false:=by rw [beq_eq_false_iff_ne];exact g1
      have hvv:decide (v≥0)=true:=by
        rcases hvn with ⟨h1,_⟩ | ⟨_,h2⟩
        · exact decide_eq_true h1
        · obtain ⟨y,hy,hy'⟩:=g2;exact absurd (hy'.trans hot) (h2 y hy)
      simp only [Option.bind_some,hb,cond_false,hvv,cond_true,d1]
    · refine ⟨p',l,?_,hup⟩
      have hb:((l.length:Int) == c)=false:=by rw [beq_eq_false_iff_ne];exact g1
      have hvv:decide (v≥0)=false:=by
        rcases hvn with ⟨_,y,hy,hy'⟩ | ⟨h1,_⟩
        · exact absurd (hy'.trans hot.symm) (g2 y hy)
        · exact decide_eq_false (by omega)
      have hh:R12_Has.f K1 l o.item=some true:=by
        rcases ohas_ok o.item l hll with ⟨h1,_⟩ | ⟨_,h2⟩
        · exact h1
        · obtain ⟨y,hy,y1,y2⟩:=g4;exact absurd y2 (h2 y hy y1)
      rw [hG1 g3,hh]
      simp only [Option.bind_some,hb,cond_false,hvv,cond_true,d2]
    · have hb:((l.length:Int) == c)=false:=by rw [beq_eq_false_iff_ne];exact g1
      have hvv:decide (v≥0)=false:=by
        rcases hvn with ⟨_,y,hy,hy'⟩ | ⟨h1,_⟩
        · exact absurd (hy'.trans hot.symm) (g2 y hy)
        · exact decide_eq_false (by omega)
      have hh:G=some false:=by
        cases hoi:o.insert with
        | false => exact hG2 hoi
        | true =>
          rw [hG1 hoi]
          rcases ohas_ok o.item l hll with ⟨_,y,hy,y1,y2⟩ | ⟨h1,_⟩
          · exact absurd y2 (g3 hoi y hy y1)
          · exact h1
      obtain ⟨A,D,e,hA,hD⟩:=split_new l o.time hs g2
      refine ⟨p',A++o::D,?_,g4 A D e hA hD⟩
      have hadd:R12_Add.f K1 l o=some (A++o::D):=by
        rw [e];exact refAdd o A D hA hD (by rw [← e];exact hll)
      rw [hh]
      simp only [Option.bind_some,hb,cond_false,hvv,hadd,d3]
  have hr0:r=0∨r=1∨r=2:=by omega
  rcases hr0 with rfl | rfl | rfl
  · have e0:(((0:Nat):Int) == 0)=true:=rfl
    rw [e0,cond_true]
    obtain ⟨p',l',k1,k2⟩:=key ⟨t,true,a.x⟩ (fun h=>by cases h) rfl (R12_Has.f K1 l a.x) (fun _=>rfl) (fun h=>by cases h)
    refine ⟨p',l',?_,k2⟩
    rw [← k1]
    unfold past_Past_Insert.f
    cases past_Past_insert.f K1 p ⟨t,true,a.x⟩ <;> rfl
  · have e0:(((1:Nat):Int) == 0)=false:=rfl
    have e1:(((1:Nat):Int) == 1)=true:=rfl
    rw [e0,cond_false,e1,cond_true]
    obtain ⟨p',l',k1,k2⟩:=key ⟨t,false,zTItem⟩ (fun _=>rfl) rfl (some false) (fun h=>by cases h) (fun _=>rfl)
    refine ⟨p',l',?_,k2⟩
    rw [← k1]
    unfold past_Past_Delete.f
    cases past_Past_insert.f K1 p ⟨t,false,zTItem⟩ <;> rfl
  · have e0:(((2:Nat):Int) == 0)=false:=rfl
    have e1:(((2:Nat):Int) == 1)=false:=rfl
    have e2:(((2:Nat):Int) == 2)=true:=rfl
    rw [e0,cond_false,e1,cond_false,e2,cond_true]
    rcases hAt with ⟨A,D,e,hA,hD,hne,hat⟩ | ⟨A,y,D,e,hy,hA,hD,hat⟩
    · rw [hv] at hat
      have:v = -1:=Option.some.inj hat
      subst this
      refine ⟨p,l,?_,hup⟩
      rw [past_rev_no h.ok (by rw [h.is];exact hne)]
      rfl
    · rw [hv] at hat
      have:v=(A.length:Int):=Option.some.inj hat
      subst this
      have hlen:=h.len
      have hcap:=h.cap
      have hcn:=h.cnt
      have elen:(A++y::D).length=(A++D).length+1:=by simp;omega
      rw [e,elen] at hlen hcap
      have hA' : ∀ x∈A,x.time<y.time:=by rw [hy];exact hA
      have hD' : ∀ x∈D,y.time<x.time:=by rw [hy];exact hD
      obtain ⟨p',r1,r2,r3,r4,r5,r6,_⟩:=revoke_past hc2 hB (by omega) h.ok (h.is.trans e) hA' hD' (by omega) (by omega)
      rw [hy] at r1
      have hw:R12_Without.f K1 l (A.length:Int)=some (A++D):=by rw [e];exact refWithout A D y (by rw [← e];exact hll)
      refine ⟨p',A++D,?_,r2.up (by omega) hB9,r3,by omega,by omega,by omega⟩
      rw [decide_eq_false (by omega : ¬ ((A.length:Int)<0)),cond_false,hw,r1]
      rfl
theorem do_ok {c : Int} (hc0 : 0 ≤ c) (hc2 : c ≤ 65536) {B n : Nat} {p : TPast} {l : List TOp} (h : DoOk c B n p l) (hB : 200 ≤ B) (hB9 : B + 6 < 900000) (hn : n < 90) (a : TL12Act) :
    ∃ p' l',Lw14_do.f K1 p l c a=some (l',true,p')∧DoOk c (B+6) (n+1) p' l':=by
  rw [do_eq]
  cases a.told with
  | false => exact doB_ok hc0 hc2 h hB hB9 hn a a.time
  | true =>
    rw [cond_true]
    by_cases hl:(l.length:Int)>0
    · rw [decide_eq_true hl,cond_true]
      obtain ⟨r,hr,hr2⟩:=refRest a.time (n:=l.length) (by omega) (by have:=h.len;omega)
      have hget:atL l (r:Int)=some l[r]:=atL_nat (List.getElem?_eq_getElem hr2)
      rw [hr,Option.bind_some,hget,Option.bind_some]
      exact doB_ok hc0 hc2 h hB hB9 hn a _
    · rw [decide_eq_false hl,cond_false];exact doB_ok hc0 hc2 h hB hB9 hn a a.time
end Go.Proofs.YtgjbibabegabnaaGreat
namespace Go.Proofs.YtgjbibabegabnaaGreat
open Go Go.Proofs.YtgjbibabegabnaaGreat.Sx
theorem Vw0.pre {Q Q':List TQueue} {vs:List (TPart×List TItem)} {a:List TOp} (h:Vw0 Q vs a) (hp:Q <+: Q'):Vw0 Q' vs a:=by
  obtain ⟨X,rfl⟩:=hp
  induction X generalizing Q with
  | nil => rw [List.append_nil]; exact h
  | cons q X ih =>
    have:=ih (h.grow q)
    rwa [List.append_assoc] at this
theorem pat_ok {c : Int} (hc2 : c ≤ 65536) {B n : Nat} {p : TPast} {l : List TOp} (h : DoOk c B n p l) (hn : n < 100) {Q0 : List TQueue} (hq : pQ p.root <+: Q0) (tm : Int) :
    ∃ vs Q,past_Past_At.f K1 Q0 (TPastI.mk p.capacity (pI 0 p.root)) tm=some (⟨fsts vs⟩,Q)∧Q0 <+: Q∧Vw0 Q vs (upt tm true l):=by
  obtain ⟨X,rfl⟩:=hq
  obtain ⟨vs,Q,e1,e2,e3⟩:=until_ok hc2 h.ok (by have:=h.cnt;omega) X tm true
  refine ⟨vs,Q,?_,e2,by rw [← h.is];exact e3⟩
  unfold past_Past_At.f
  rw [e1];rfl
theorem pahead_ok {c : Int} (hc2 : c ≤ 65536) {B n : Nat} {p : TPast} {l : List TOp} (h : DoOk c B n p l) (hn : n < 100) {Q0 : List TQueue} (hq : pQ p.root <+: Q0) (tm : Int) :
    ∃ vs Q,past_Past_Ahead.f K1 Q0 (TPastI.mk p.capacity (pI 0 p.root)) tm=some (⟨fsts vs⟩,Q)∧Q0 <+: Q∧Vw0 Q vs (upt tm false l):=by
  obtain ⟨X,rfl⟩:=hq
  obtain ⟨vs,Q,e1,e2,e3⟩:=until_ok hc2 h.ok (by have:=h.cnt;omega) X tm false
  refine ⟨vs,Q,?_,e2,by rw [← h.is];exact e3⟩
  unfold past_Past_Ahead.f
  rw [e1];rfl
theorem new14 (n:Int) : ∃ p,past_New.f K1 n=some p∧DoOk (gmin (gmax n 0) 65536) 200 0 p []:=⟨_,rfl,⟨rfl,trivial,List.Pairwise.nil⟩,rfl,(cap_bd n).1,Nat.le_refl _,Nat.le_refl _⟩
theorem new60 : ∃ p,past_New.f K1 60=some p∧DoOk 60 200 0 p []:=new14 60
theorem upt_take {l:List TOp} (hs:TS1 l) {i:Nat} {x:TOp} (hx:l[i]? = some x):upt x.time true l=l.take (i+1)∧upt x.time false l=l.take i:=by
  obtain ⟨hj,hy⟩:=List.getElem?_eq_some_iff.1 hx
  have e:l=l.take i++x::l.drop (i+1):=by
    rw [← hy,← List.drop_eq_getElem_cons hj,List.take_append_drop]
  have hs':=hs
  rw [e] at hs'
  obtain ⟨_,p2,p3⟩:=List.pairwise_append.1 hs'
  have hA : ∀ y∈l.take i,y.time<x.time:=fun y hy=>p3 y hy x List.mem_cons_self
  have hD : ∀ y∈l.drop (i+1),x.time<y.time:=(List.pairwise_cons.1 p2).1
  have key : ∀ w,upt x.time w l=l.take i++(upt x.time w [x]++[]):=fun w=>by
    have:upt x.time w l=upt x.time w (l.take i++([x]++l.drop (i+1))):=congrArg _ e
    rw [this,upt_app,upt_app,upt_all (fun o ho=>.inl (hA o ho)),upt_none (l:=l.drop (i+1)) (fun o ho=>.inl (hD o ho))]
  constructor
  · rw [key,upt_all (l:=[x]) (fun o ho=>by rw [List.mem_singleton.1 ho];exact .inr ⟨rfl,rfl⟩),List.append_nil,take_snoc hx]
  · rw [key,upt_none (l:=[x]) (fun o ho=>by rw [List.mem_singleton.1 ho];exact .inr ⟨rfl,rfl⟩),List.append_nil,List.append_nil]
theorem fillB (acts : List TL12Act) (hl : acts.length ≤ 40) : ∀ (d i n : Nat) (p : TPast) (l : List TOp), i + d = acts.length → d < n → DoOk 60 (200 + 6 * i) i p l →
    ∃ p' l',Lw14_PastBetween.l0 K1 acts n (p.capacity,p.root,l,(i:Int))=some (p'.capacity,p'.root,l')∧DoOk 60 (200+6*acts.length) acts.length p' l'
  | d, i, 0, _, _, _, h, _ => by omega
  | 0, i, n + 1, p, l, hi, _, h => by
    have:i=acts.length:=by omega
    subst this
    refine ⟨p,l,?_,h⟩
    simp only [Lw14_PastBetween.l0]
    rw [dec_nlt (by omega)];rfl
  | d + 1, i, n + 1, p, l, hi, hn, h => by
    obtain ⟨a,ha,_⟩:=drop_cons (l:=acts) (i:=i) (by omega)
    obtain ⟨p',l',r1,r2⟩:=do_ok (by decide) (by decide) h (by omega) (by omega) (by omega) a
    have r1':Lw14_do.f K1 (TPast.mk p.capacity p.root) l 60 a=some (l',true,p'):=r1
    obtain ⟨p2,l2,z1,z2⟩:=fillB acts hl d (i+1) n p' l' (by omega) (by omega) (by rw [show 200+6*(i+1)=200+6*i+6 by omega];exact r2)
    refine ⟨p2,l2,?_,z2⟩
    simp only [Lw14_PastBetween.l0]
    rw [dec_lt (by omega)]
    simp only [cond_true,atL_nat ha,Option.bind_some,r1',w64_succ (i:=i) (by omega)]
    exact z1
theorem between_loop {B:Nat} {p:TPast} {l:List TOp} {m:Nat} (h:DoOk 60 B m p l) (hm:m<100) : ∀ (d i n:Nat),i+d=l.length→d<n→Lw14_PastBetween.l1 K1 (p.capacity,p.root,l) n (i:Int)=some (Sum.inr ())
  | d, i, 0, _, h => by omega
  | 0, i, n + 1, hi, _ => by
    have hll:=h.len
    simp only [Lw14_PastBetween.l1]
    rw [w64_succ (i:=i) (by omega),dec_nlt (by omega)];rfl
  | d + 1, i, n + 1, hi, hn => by
    have hll:=h.len
    simp only [Lw14_PastBetween.l1]
    by_cases hd:i+1<l.length
    · obtain ⟨x,hx,_⟩:=drop_cons (l:=l) (i:=i) (by omega)
      obtain ⟨y,hy,_⟩:=drop_cons (l:=l) (i:=i+1) hd
      have hs:TS1 l:=by rw [← h.is];exact live_sorted h.ok.st
      obtain ⟨vs,Q,e1,e2,e3⟩:=pahead_ok (by decide) h hm (List.prefix_refl _) y.time
      obtain ⟨vs',Q',f1,f2,f3⟩:=pat_ok (by decide) h hm e2 x.time
      rw [(upt_take hs hy).2] at e3
      rw [(upt_take hs hx).1] at f3
      have hsm:=same_ok13 (e3.pre f2)
      rw [w64_succ (i:=i) (by omega),dec_lt hd]
      simp only [cond_true,atL_nat hx,atL_nat hy,Option.bind_some,e1,decide_eq_true e3.ok.parts,f1,vitems_ok f3.ok,f3.srt,hsm,Bool.not_true,cond_false]
      exact between_loop h hm d (i+1) n (by omega) (by omega)
    · rw [w64_succ (i:=i) (by omega),dec_nlt (by omega)];rfl
theorem PastBetween_pure (acts:List TL12Act):Lw14_PastBetween.f K1 acts=some true:=by
  unfold Lw14_PastBetween.f
  simp only [awake14,Option.bind_some,Bool.not_true,cond_false]
  by_cases h:(acts.length:Int)>40
  · rw [decide_eq_true h];rfl
  · obtain ⟨p,q1,q2⟩:=new60
    obtain ⟨p',l',z1,z2⟩:=fillB acts (by omega) acts.length 0 K1 p [] (Nat.zero_add _) (by unfold K1;omega) q2
    replace z1:Lw14_PastBetween.l0 K1 acts K1 (p.capacity,p.root,[],0)=some (p'.capacity,p'.root,l'):=z1
    have e:=between_loop z2 (by omega) l'.length 0 K1 (Nat.zero_add _) (by have:=z2.len;unfold K1;omega)
    replace e:Lw14_PastBetween.l1 K1 (p'.capacity,p'.root,l') K1 0=some (Sum.inr ()):=e
    have hlen:past_Past_Len.f K1 (TPast.mk p'.capacity p'.root)=some (l'.length:Int):=by
      have:=plen_ok z2.ok
      rw [z2.is] at this;exact this
    rw [decide_eq_false h]
    simp only [cond_false,Option.bind_some,Sum.elim_inr,q1,z1,e,hlen,beq_self_eq_true]
end Go.Proofs.YtgjbibabegabnaaGreat
