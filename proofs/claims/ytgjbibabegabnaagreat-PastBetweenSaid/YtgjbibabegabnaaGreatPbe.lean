/- My texts that the proof of PastBetween rests on, part 5: a calculus of walks, the walks, and the plain law. -/
import Derived.KernelRfl
import Derived.Test.YtgjbibabegabnaaGreatPbd
set_option linter.unusedVariables false
set_option linter.unusedSimpArgs false
namespace Go.Proofs.YtgjbibabegabnaaGreat
open Go Go.Proofs.YtgjbibabegabnaaGreat.Sx
def IsNext (m:List TMark) (base:Int) (c:Nat) (v:Int):Prop:=(v = -1∧∀ j,c≤j→j≤m.length→¬ hgt m base j≤0)∨∃ j:Nat,v=j∧c≤j∧j≤m.length∧hgt m base j≤0∧∀ q,c≤q→q<j→¬ hgt m base q≤0
def IsPrior (m:List TMark) (base:Int) (c:Nat) (v:Int):Prop:=(v = -1∧∀ j,j≤c→¬ hgt m base j≤0)∨∃ j:Nat,v=j∧j≤c∧hgt m base j≤0∧∀ q,j<q→q≤c→¬ hgt m base q≤0
def turnF (it:TItem) (h:Bool) (x:TMark):TMark:=if x.op.insert=true∧x.op.item=it then ⟨x.op,h,x.took⟩ else x
def turnM (it:TItem) (h:Bool) (m:List TMark):List TMark:=m.map (turnF it h)
theorem turnF_op (it:TItem) (h:Bool) (x:TMark):(turnF it h x).op=x.op:=by unfold turnF;split <;> rfl
theorem turnF_took (it:TItem) (h:Bool) (x:TMark):(turnF it h x).took=x.took:=by unfold turnF;split <;> rfl
theorem turnM_ops (it:TItem) (h:Bool) (m:List TMark):(turnM it h m).map (·.op)=m.map (·.op):=by
  unfold turnM;rw [List.map_map];exact List.map_congr_left (fun x _=>turnF_op it h x)
theorem turnM_app (it:TItem) (h:Bool) (a b:List TMark):turnM it h (a++b)=turnM it h a++turnM it h b:=List.map_append
theorem turnM_cons (it:TItem) (h:Bool) (x:TMark) (b:List TMark):turnM it h (x::b)=turnF it h x::turnM it h b:=rfl
theorem turnF_del {it:TItem} {h:Bool} {x:TMark} (hx:x.op.insert=false):turnF it h x=x:=by unfold turnF;rw [if_neg (by simp [hx])]
theorem turnM_len (it:TItem) (h:Bool) (m:List TMark):(turnM it h m).length=m.length:=List.length_map ..
theorem turnM_get (it:TItem) (h:Bool) (m:List TMark) (i:Nat):(turnM it h m)[i]? = (m[i]?).map (turnF it h):=List.getElem?_map ..
theorem cert_congr {n:Nat} {G S G' S':Nat→Prop} {lt lt':Nat→Nat→Prop} {H H':Nat→Int} (h:PQ.Cert n G S lt H) (hg : ∀ i,i<n→(G' i→G i)) (hs : ∀ i,i<n→(S' i→S i)) (hl : ∀ i j,lt' i j→lt i j) (hH : ∀ p,p≤n→H' p=H p):PQ.Cert n G' S' lt' H':=by
  refine ⟨fun p hp=>by rw [hH p hp];exact h.low p hp,by rw [hH n (Nat.le_refl _)];exact h.fin,fun i j hi hj h1 h2 h3=>?_,fun h0 j hj h2=>?_⟩
  · obtain ⟨b,b1,b2,b3⟩:=h.two i j hi hj (hg i hi h1) (hs j hj h2) (hl _ _ h3)
    exact ⟨b,b1,b2,by rw [hH b (by omega)];exact b3⟩
  · rw [hH 0 (Nat.zero_le _)] at h0
    obtain ⟨b,b1,b2⟩:=h.free h0 j hj (hs j hj h2)
    exact ⟨b,b1,by rw [hH b (by omega)];exact b2⟩
theorem ltI_trans (m:List TMark) : ∀ a b c,ltI m a b→ltI m b c→ltI m a c:=by
  rintro a b c ⟨x,y,h1,h2,h3⟩ ⟨y',z,h4,h5,h6⟩
  rw [h2] at h4;cases h4
  exact ⟨x,z,h1,h5,ilt_trans_le h3 (ilt_ile h6)⟩
theorem ltI_irrefl (m:List TMark) : ∀ a,¬ ltI m a a:=by
  rintro a ⟨x,y,h1,h2,h3⟩
  rw [h1] at h2;cases h2
  exact ilt_irrefl _ h3
theorem atG_S (m:List TMark) : ∀ i,atG m i→¬ atS m i:=by
  rintro i ⟨x,h1,h2⟩ ⟨y,h3,h4⟩
  rw [h1] at h3;cases h3
  exact absurd (h2.2.symm.trans h4.2) (by decide)
theorem hgt_base (m:List TMark) (E d:Int) (p:Nat):hgt m (E+d) p=hgt m E p+d:=by unfold hgt;omega
theorem hgt_zero (m:List TMark) (E:Int):hgt m E 0=E:=by simp [hgt]
theorem hgt_turn {m:List TMark} (hd:Dist m) {z:Nat} {x:TMark} (hz:m[z]? = some x) (hi:x.op.insert=true) (E:Int) (h:Bool) : ∀ p,p≤m.length→hgt (turnM x.op.item h m) E p=hgt m E p+if z<p then mwt ⟨x.op,h,x.took⟩ - mwt x else 0
  | 0, _ => by rw [hgt_zero, hgt_zero, if_neg (by omega)]; omega
  | p + 1, hp => by
    obtain ⟨y,hy⟩ : ∃ y,m[p]? = some y:=⟨_,List.getElem?_eq_getElem (by omega)⟩
    have h1:(turnM x.op.item h m)[p]? = some (turnF x.op.item h y):=by rw [turnM_get,hy];rfl
    rw [hgt_succ h1,hgt_succ hy,hgt_turn hd hz hi E h p (by omega)]
    by_cases e:p=z
    · subst e
      rw [hz] at hy;cases hy
      rw [if_neg (by omega),if_pos (by omega)]
      unfold turnF;rw [if_pos ⟨hi,rfl⟩];omega
    · have : turnF x.op.item h y = y := by
        unfold turnF;rw [if_neg]
        rintro ⟨h2,h3⟩
        exact e (hd p z y x hy hz h2 hi h3)
      rw [this]
      by_cases e':z<p
      · rw [if_pos e',if_pos (by omega)];omega
      · rw [if_neg e',if_neg (by omega)];omega
theorem turn_at {m:List TMark} (hd:Dist m) {z:Nat} {x:TMark} (hz:m[z]? = some x) (hi:x.op.insert=true) (h:Bool) {i:Nat} {y:TMark} (hy:(turnM x.op.item h m)[i]? = some y):(i=z∧y=⟨x.op,h,x.took⟩)∨(i≠z∧m[i]? = some y):=by
  rw [turnM_get] at hy
  obtain ⟨y',h1,rfl⟩:=Option.map_eq_some_iff.1 hy
  by_cases e:i=z
  · subst e;rw [hz] at h1;cases h1
    exact .inl ⟨rfl,by unfold turnF;rw [if_pos ⟨hi,rfl⟩]⟩
  · refine .inr ⟨e,?_⟩
    unfold turnF;rw [if_neg]
    · exact h1
    · rintro ⟨h2,h3⟩;exact e (hd i z y' x h1 hz h2 hi h3)
theorem ltI_turn {m:List TMark} {it:TItem} {h:Bool} {i j:Nat} (hl:ltI (turnM it h m) i j):ltI m i j:=by
  obtain ⟨x,y,h1,h2,h3⟩:=hl
  rw [turnM_get] at h1 h2
  obtain ⟨x',g1,rfl⟩:=Option.map_eq_some_iff.1 h1
  obtain ⟨y',g2,rfl⟩:=Option.map_eq_some_iff.1 h2
  rw [turnF_op,turnF_op] at h3
  exact ⟨x',y',g1,g2,h3⟩
theorem more_none {m:List TMark} {E:Int} {t:Nat} (h:PQ.More m.length t (atG m) (atS m) (ltI m) (hgt m E)) (hb : ∀ b,b<t→hgt m E b≠0):CertM m (E - 1):=by
  refine cert_congr (h.none hb) (fun _ _=>id) (fun _ _=>id) (fun _ _=>id) (fun p _=>?_)
  have:=hgt_base m E (-1) p
  rw [show E - 1=E + -1 by omega,this];show _=hgt m E p - 1;omega
theorem gone_ex {m:List TMark} {E:Int} {b:Nat} (hb:hgt m E b=0) : ∀ d,b+d≤m.length→1≤hgt m E (b+d)→∃ i,b≤i∧i<b+d∧atG m i
  | 0, _, h => by rw [Nat.add_zero, hb] at h; omega
  | d + 1, hl, h => by
    obtain ⟨y,hy⟩ : ∃ y,m[b+d]? = some y:=⟨_,List.getElem?_eq_getElem (by omega)⟩
    rw [show b+(d+1)=b+d+1 by omega,hgt_succ hy] at h
    by_cases e:isG y
    · exact ⟨b+d,by omega,by omega,y,hy,e⟩
    · have : mwt y ≤ 0 := by
        unfold mwt
        by_cases h1:y.op.insert=true
        · by_cases h2:y.here=true
          · simp [h1,h2]
          · exact absurd ⟨h1,by simpa using h2⟩ e
        · rw [if_neg h1];omega
      obtain ⟨i,h1,h2,h3⟩:=gone_ex hb d (by omega) (by omega)
      exact ⟨i,h1,by omega,h3⟩
theorem mem_drop_goneI {m:List TMark} {b:Nat} {x:TItem}:x∈goneI (m.drop b)↔∃ (i:Nat) (y:TMark),b≤i∧m[i]? = some y∧isG y∧y.op.item=x:=by
  rw [mem_goneI]
  constructor
  · rintro ⟨i,y,h1,h2⟩
    rw [List.getElem?_drop] at h1
    exact ⟨b+i,y,by omega,h1,h2⟩
  · rintro ⟨i,y,h0,h1,h2⟩
    exact ⟨i - b,y,by rw [List.getElem?_drop,show b+(i - b)=i by omega];exact h1,h2⟩
theorem mem_take_hereI {m:List TMark} {b:Nat} {x:TItem}:x∈hereI (m.take b)↔∃ (i:Nat) (y:TMark),i<b∧m[i]? = some y∧isS y∧y.op.item=x:=by
  rw [mem_hereI]
  constructor
  · rintro ⟨i,y,h1,h2⟩
    obtain ⟨h3,h4⟩:=take_get h1
    exact ⟨i,y,h3,h4,h2⟩
  · rintro ⟨i,y,h0,h1,h2⟩
    exact ⟨i,y,by rw [List.getElem?_take,if_pos h0];exact h1,h2⟩
theorem more_some {m : List TMark} {E : Int} {t b : Nat} (hd : Dist m) (h : PQ.More m.length t (atG m) (atS m) (ltI m) (hgt m E)) (hbt : b < t) (hb0 : hgt m E b = 0) (hb1 : ∀ q, b < q → q < t → hgt m E q ≠ 0) {best : TTook} (hm : IsMax (goneI (m.drop b)) best) :
    best.found=true∧CertM (turnM best.item true m) E∧∃ (z:Nat) (x:TMark),m[z]? = some x∧isG x∧x.op.item=best.item∧b≤z:=by
  have hle:=h.le
  obtain ⟨i,h1,h2,y,h3,h4⟩:=gone_ex hb0 (m.length - b) (by omega) (by rw [show b+(m.length - b)=m.length by omega,h.fin];omega)
  rcases hm with ⟨hn,_⟩ | ⟨g1,g2,g3⟩
  · have:y.op.item∈goneI (m.drop b):=mem_drop_goneI.2 ⟨i,y,h1,h3,h4,rfl⟩
    rw [hn] at this;cases this
  · obtain ⟨z,x,hz1,hz2,hz3,hz4⟩:=mem_drop_goneI.1 g2
    have hzn:z<m.length:=(List.getElem?_eq_some_iff.1 hz2).1
    refine ⟨g1,?_,z,x,hz2,hz3,hz4,hz1⟩
    have hC:=h.some (z:=z) (ltI_trans m) (ltI_irrefl m) hbt hb0 hb1 hz1 hzn ⟨x,hz2,hz3⟩ (fun j hj hbj hG=>by
      obtain ⟨w,w1,w2⟩:=hG
      have:=g3 _ (mem_drop_goneI.2 ⟨j,w,hbj,w1,w2,rfl⟩)
      rw [← hz4] at this
      by_cases e:j=z
      · exact .inl e
      · exact .inr ⟨w,x,w1,hz2,ilt_iff.2 ⟨this,fun e'=>e (hd j z w x w1 hz2 w2.1 hz3.1 e')⟩⟩) (atG_S m)
    rw [← hz4]
    have hlen:(turnM x.op.item true m).length=m.length:=turnM_len _ _ _
    unfold CertM;rw [hlen]
    refine cert_congr hC (fun j _=>?_) (fun j _=>?_) (fun _ _=>ltI_turn) (fun p hp=>?_)
    · rintro ⟨w,w1,w2⟩
      rcases turn_at hd hz2 hz3.1 true w1 with ⟨rfl,rfl⟩ | ⟨e,w3⟩
      · cases w2.2
      · exact ⟨⟨w,w3,w2⟩,e⟩
    · rintro ⟨w,w1,w2⟩
      rcases turn_at hd hz2 hz3.1 true w1 with ⟨rfl,rfl⟩ | ⟨e,w3⟩
      · exact .inr rfl
      · exact .inl ⟨w,w3,w2⟩
    · rw [hgt_turn hd hz2 hz3.1 E true p hp]
      have e1:mwt x=1:=by simp [mwt,hz3.1,hz3.2]
      have e2:mwt ⟨x.op,true,x.took⟩=0:=by simp [mwt,hz3.1]
      rw [e1,e2];show _=hgt m E p - _
      split <;> omega
theorem less_all {m : List TMark} {E : Int} {t b : Nat} (hd : Dist m) (h : PQ.Less m.length t (atG m) (atS m) (ltI m) (hgt m E)) (hbt : t ≤ b) (hbn : b ≤ m.length) (hb0 : hgt m E b = -1) (hb1 : ∀ q, t ≤ q → q < b → hgt m E q ≠ -1) {least : TTook} (hm : IsMin (hereI (m.take b)) least) :
    (least.found=false∧CertM m (E+1))∨(least.found=true∧CertM (turnM least.item false m) E∧∃ (z:Nat) (x:TMark),m[z]? = some x∧isS x∧x.op.item=least.item):=by
  rcases hm with ⟨hn,rfl⟩ | ⟨g1,g2,g3⟩
  · refine .inl ⟨rfl,?_⟩
    refine cert_congr (h.none hbt hbn hb0 hb1 (fun j hj hS=>?_)) (fun _ _=>id) (fun _ _=>id) (fun _ _=>id) (fun p _=>hgt_base m E 1 p)
    obtain ⟨w,w1,w2⟩:=hS
    have:w.op.item∈hereI (m.take b):=mem_take_hereI.2 ⟨j,w,hj,w1,w2,rfl⟩
    rw [hn] at this;cases this
  · obtain ⟨z,x,hz1,hz2,hz3,hz4⟩:=mem_take_hereI.1 g2
    refine .inr ⟨g1,?_,z,x,hz2,hz3,hz4⟩
    have hC:=h.some (z:=z) (ltI_trans m) (ltI_irrefl m) hbt hbn hb0 hb1 hz1 ⟨x,hz2,hz3⟩ (fun j hj hS=>by
      obtain ⟨w,w1,w2⟩:=hS
      have:=g3 _ (mem_take_hereI.2 ⟨j,w,hj,w1,w2,rfl⟩)
      rw [← hz4] at this
      by_cases e:j=z
      · exact .inl e
      · exact .inr ⟨x,w,hz2,w1,ilt_iff.2 ⟨this,fun e'=>e (hd j z w x w1 hz2 w2.1 hz3.1 e'.symm)⟩⟩)
    rw [← hz4]
    have hlen:(turnM x.op.item false m).length=m.length:=turnM_len _ _ _
    unfold CertM;rw [hlen]
    refine cert_congr hC (fun j _=>?_) (fun j _=>?_) (fun _ _=>ltI_turn) (fun p hp=>?_)
    · rintro ⟨w,w1,w2⟩
      rcases turn_at hd hz2 hz3.1 false w1 with ⟨rfl,rfl⟩ | ⟨e,w3⟩
      · exact .inr rfl
      · exact .inl ⟨w,w3,w2⟩
    · rintro ⟨w,w1,w2⟩
      rcases turn_at hd hz2 hz3.1 false w1 with ⟨rfl,rfl⟩ | ⟨e,w3⟩
      · cases w2.2
      · exact ⟨⟨w,w3,w2⟩,e⟩
    · rw [hgt_turn hd hz2 hz3.1 E false p hp]
      have e1:mwt x=0:=by simp [mwt,hz3.1,hz3.2]
      have e2:mwt ⟨x.op,false,x.took⟩=1:=by simp [mwt,hz3.1]
      rw [e1,e2];rfl
theorem take_app {α:Type} (A B:List α) (d:Nat):(A++B).take (A.length+d)=A++B.take d:=by
  rw [List.take_append,List.take_of_length_le (l:=A) (by omega),show A.length+d - A.length=d by omega]
theorem get_sh (A B:List TMark) (x:TMark) (i:Nat):(A++x::B)[PQ.sh A.length i]? = (A++B)[i]?:=by
  rcases PQ.sh_cases A.length i with ⟨h1,h2⟩ | ⟨h1,h2⟩
  · rw [h2,List.getElem?_append_left h1,List.getElem?_append_left h1]
  · rw [h2,List.getElem?_append_right (by omega),List.getElem?_append_right h1,show i+1 - A.length=(i - A.length)+1 by omega,List.getElem?_cons_succ]
theorem get_mid (A B:List TMark) (x:TMark):(A++x::B)[A.length]? = some x:=by
  rw [List.getElem?_append_right (Nat.le_refl _),Nat.sub_self];rfl
theorem hgt_lo (A B:List TMark) (E:Int) {p:Nat} (h:p≤A.length):hgt (A++B) E p=hgt A E p:=by
  unfold hgt wts;rw [List.map_append,List.take_append_of_le_length (by simpa using h)]
theorem ins_of (A B:List TMark) (x:TMark) (E:Int):PQ.Ins (A++B).length A.length (mwt x) (atG (A++B)) (atS (A++B)) (ltI (A++B)) (hgt (A++B) E) (atG (A++x::B)) (atS (A++x::B)) (ltI (A++x::B)) (hgt (A++x::B) E):=by
  refine ⟨by simp,fun i=>?_,fun i=>?_,fun i j=>?_,fun p hp=>?_,fun p hp=>?_⟩
  · unfold atG;rw [get_sh]
  · unfold atS;rw [get_sh]
  · unfold ltI;rw [get_sh,get_sh]
  · rw [hgt_lo _ _ _ hp,hgt_lo _ _ _ hp]
  · unfold hgt wts
    obtain ⟨d,rfl⟩ : ∃ d,p=A.length+d:=⟨p - A.length,by omega⟩
    have e1:=take_app (A.map mwt) (mwt x::B.map mwt) (d+1)
    have e2:=take_app (A.map mwt) (B.map mwt) d
    rw [List.length_map] at e1 e2
    rw [List.map_append,List.map_append,List.map_cons,e2,show A.length+d+1=A.length+(d+1) by omega,e1,List.take_succ_cons]
    simp only [List.sum_append,List.sum_cons];omega
theorem edit_insert {A B : List TMark} {x : TMark} {E : Int} (hx : isG x) (hd : Dist (A ++ x :: B)) (hc : CertM (A ++ B) E) {v : Int} (hv : IsPrior (A ++ B) E A.length v) :
    (v = -1∧CertM (A++x::B) (E - 1))∨∃ b:Nat,v=b∧b≤A.length∧∀ best,IsMax (goneI ((A++x::B).drop b)) best →
      best.found=true∧CertM (turnM best.item true (A++x::B)) E∧∃ (z:Nat) (y:TMark),(A++x::B)[z]? = some y∧isG y∧y.op.item=best.item:=by
  have hw:mwt x=1:=by simp [mwt,hx.1,hx.2]
  have hi:=ins_of A B x E
  rw [hw] at hi
  have hm:=hi.more (fun ⟨y,h1,h2⟩=>by rw [get_mid] at h1;cases h1;exact absurd (hx.2.symm.trans h2.2) (by decide)) hc
  have hlen:(A++x::B).length=(A++B).length+1:=by simp;omega
  rw [← hlen] at hm
  rcases hv with ⟨h1,h2⟩ | ⟨b,h1,h2,h3,h4⟩
  · refine .inl ⟨h1,more_none hm (fun b hb=>?_)⟩
    rw [hi.lo b (by omega)]
    intro e;exact h2 b (by omega) (by omega)
  · refine .inr ⟨b,h1,h2,fun best hb=>?_⟩
    have hA:A.length≤(A++B).length:=by simp
    have hb0:hgt (A++x::B) E b=0:=by rw [hi.lo b h2];have:=hc.low b (by omega);omega
    obtain ⟨g1,g2,z,y,g3,g4,g5,_⟩:=more_some hd hm (by omega) hb0 (fun q q1 q2 e=>h4 q q1 (by omega) (by rw [← hi.lo q (by omega)];omega)) hb
    exact ⟨g1,g2,z,y,g3,g4,g5⟩
theorem edit_delete {A B : List TMark} {x : TMark} {E : Int} (hx : x.op.insert = false) (hd : Dist (A ++ x :: B)) (hc : CertM (A ++ B) E) {v : Int} (hv : IsNext (A ++ B) E A.length v) :
    ∃ b:Nat,v=b∧b≤(A++B).length∧∀ least,IsMin (hereI ((A++B).take b)) least→(least.found=false∧CertM (A++x::B) (E+1)) ∨
      (least.found=true∧CertM (turnM least.item false (A++x::B)) E∧∃ (z:Nat) (y:TMark),(A++B)[z]? = some y∧isS y∧y.op.item=least.item):=by
  have hw:mwt x = -1:=by simp [mwt,hx]
  have hi:=ins_of A B x E
  rw [hw] at hi
  have hne : ∀ y,(A++x::B)[A.length]? = some y→¬ y.op.insert=true:=fun y h1 h2=>by
    rw [get_mid] at h1;cases h1;rw [hx] at h2;cases h2
  have hm:=hi.less (fun ⟨y,h1,h2⟩=>hne y h1 h2.1) (fun ⟨y,h1,h2⟩=>hne y h1 h2.1) hc
  have hlen:(A++x::B).length=(A++B).length+1:=by simp;omega
  rw [← hlen] at hm
  have hA:A.length≤(A++B).length:=by simp
  rcases hv with ⟨h1,h2⟩ | ⟨b,h1,h2,h5,h3,h4⟩
  · exact absurd (by rw [hc.fin];omega) (h2 (A++B).length hA (Nat.le_refl _))
  · refine ⟨b,h1,h5,fun least hl=>?_⟩
    have hb0:hgt (A++B) E b=0:=by have:=hc.low b h5;omega
    have ht:hereI ((A++x::B).take (b+1))=hereI ((A++B).take b):=by
      obtain ⟨d,rfl⟩ : ∃ d,b=A.length+d:=⟨b - A.length,by omega⟩
      rw [show A.length+d+1=A.length+(d+1) by omega,take_app,take_app,List.take_succ_cons,hereI_app,hereI_app]
      congr 1
      simp [hereI,hx]
    rw [← ht] at hl
    rcases less_all hd hm (b:=b+1) (by omega) (by omega) (by rw [hi.hi b h2,hb0];rfl) (fun q q1 q2 e=>by
      have:=hi.hi (q - 1) (by omega)
      rw [show q - 1+1=q by omega] at this
      exact h4 (q - 1) (by omega) (by omega) (by omega)) hl with g | ⟨g1,g2,z,y,g3,g4,g5⟩
    · exact .inl g
    · refine .inr ⟨g1,g2,?_⟩
      have hz:z≠A.length:=by rintro rfl;exact hne y g3 g4.1
      obtain ⟨q,rfl⟩:=PQ.sh_ex hz
      rw [get_sh] at g3
      exact ⟨q,y,g3,g4,g5⟩
theorem edit_revD {A B : List TMark} {x : TMark} {E : Int} (hx : x.op.insert = false) (hd : Dist (A ++ B)) (hc : CertM (A ++ x :: B) E) {v : Int} (hv : IsPrior (A ++ x :: B) E A.length v) :
    (v = -1∧CertM (A++B) (E - 1))∨∃ b:Nat,v=b∧b≤A.length∧∀ best,IsMax (goneI ((A++x::B).drop b)) best →
      best.found=true∧CertM (turnM best.item true (A++B)) E∧∃ (z:Nat) (y:TMark),(A++B)[z]? = some y∧isG y∧y.op.item=best.item:=by
  have hw:mwt x = -1:=by simp [mwt,hx]
  have hi:=ins_of A B x E
  rw [hw] at hi
  have hlen:(A++x::B).length=(A++B).length+1:=by simp;omega
  have hc':=hc
  unfold CertM at hc'
  rw [hlen] at hc'
  have hm:=hi.revD hc'
  have hA:A.length≤(A++B).length:=by simp
  have ha:hgt (A++x::B) E A.length≠0:=fun e=>by
    have h1:=hi.hi A.length (Nat.le_refl _);have h2:=hi.lo A.length (Nat.le_refl _);have h3:=hc'.low (A.length+1) (by omega);omega
  rcases hv with ⟨h1,h2⟩ | ⟨b,h1,h2,h3,h4⟩
  · refine .inl ⟨h1,more_none hm (fun b hb=>?_)⟩
    rw [← hi.lo b (by omega)]
    intro e;exact h2 b (by omega) (by omega)
  · refine .inr ⟨b,h1,h2,fun best hb=>?_⟩
    have hb0:hgt (A++x::B) E b=0:=by have:=hc'.low b (by omega);omega
    have hbA:b<A.length:=by
      rcases Nat.lt_or_ge b A.length with h | h
      · exact h
      · have:b=A.length:=by omega
        subst this;exact absurd hb0 ha
    have ht:goneI ((A++x::B).drop b)=goneI ((A++B).drop b):=by
      rw [List.drop_append_of_le_length h2,List.drop_append_of_le_length h2,goneI_app,goneI_app]
      congr 1
      simp [goneI,hx]
    rw [ht] at hb
    obtain ⟨g1,g2,z,y,g3,g4,g5,_⟩:=more_some hd hm hbA (by rw [← hi.lo b h2];exact hb0) (fun q q1 q2 e=>h4 q q1 (by omega) (by rw [hi.lo q (by omega)];omega)) hb
    exact ⟨g1,g2,z,y,g3,g4,g5⟩
theorem edit_revG {A B : List TMark} {x : TMark} {E : Int} (hx : isG x) (hd : Dist (A ++ B)) (hc : CertM (A ++ x :: B) E) {v : Int} (hv : IsNext (A ++ x :: B) E (A.length + 1) v) :
    ∃ b:Nat,v=b∧b≤(A++x::B).length∧∀ least,IsMin (hereI ((A++x::B).take b)) least→(least.found=false∧CertM (A++B) (E+1)) ∨
      (least.found=true∧CertM (turnM least.item false (A++B)) E∧∃ (z:Nat) (y:TMark),(A++B)[z]? = some y∧isS y∧y.op.item=least.item):=by
  have hw:mwt x=1:=by simp [mwt,hx.1,hx.2]
  have hi:=ins_of A B x E
  rw [hw] at hi
  have hlen:(A++x::B).length=(A++B).length+1:=by simp;omega
  have hc':=hc
  unfold CertM at hc'
  rw [hlen] at hc'
  have hm:=hi.revG hc'
  have hA:A.length≤(A++B).length:=by simp
  have h1a:=hi.hi A.length (Nat.le_refl _)
  have h2a:=hi.lo A.length (Nat.le_refl _)
  have h3a:=hc'.low A.length (by omega)
  rcases hv with ⟨h1,h2⟩ | ⟨b,h1,h2,h5,h3,h4⟩
  · exact absurd (by rw [hc.fin];omega) (h2 (A++x::B).length (by omega) (Nat.le_refl _))
  · refine ⟨b,h1,h5,fun least hl=>?_⟩
    have hb0:hgt (A++x::B) E b=0:=by have:=hc.low b h5;omega
    have hbA:A.length+2≤b:=by
      rcases Nat.lt_or_ge (A.length+1) b with h | h
      · exact h
      · have:b=A.length+1:=by omega
        subst this;omega
    have ht:hereI ((A++x::B).take b)=hereI ((A++B).take (b - 1)):=by
      obtain ⟨d,rfl⟩ : ∃ d,b=A.length+d+1:=⟨b - 1 - A.length,by omega⟩
      rw [show A.length+d+1 - 1=A.length+d by omega,show A.length+d+1=A.length+(d+1) by omega,take_app,take_app,List.take_succ_cons,hereI_app,hereI_app]
      congr 1
      simp [hereI,hx.1,hx.2]
    rw [ht] at hl
    have hbb:=hi.hi (b - 1) (by omega)
    rw [show b - 1+1=b by omega,hb0] at hbb
    exact less_all hd hm (b:=b - 1) (by omega) (by omega) (by omega) (fun q q1 q2 e=>by
      have:=hi.hi q (by omega)
      exact h4 (q+1) (by omega) (by omega) (by omega)) hl
theorem edit_revS {A B:List TMark} {x:TMark} {E:Int} (hx:isS x) (hc:CertM (A++x::B) E):CertM (A++B) E:=by
  have hw:mwt x=0:=by simp [mwt,hx.1,hx.2]
  have hi:=ins_of A B x E
  rw [hw] at hi
  have hlen:(A++x::B).length=(A++B).length+1:=by simp;omega
  unfold CertM at hc
  rw [hlen] at hc
  exact hi.revS hc
end Go.Proofs.YtgjbibabegabnaaGreat
namespace Go.Proofs.YtgjbibabegabnaaGreat
open Go Go.Proofs.YtgjbibabegabnaaGreat.Sx
theorem ref_ext {a b:TRef} (h1:a.index=b.index) (h2:a.gen=b.gen):a=b:=by cases a;cases b;simp_all
instance:DecidableEq TRef:=fun a b=>if h:a.index=b.index∧a.gen=b.gen then .isTrue (ref_ext h.1 h.2) else .isFalse (fun e=>h (by rw [e];exact ⟨rfl,rfl⟩))
section
variable {α:Type} {z:α}
def look (p:Pool α) (r:TRef):Option α:=(lookC p.cells r.index r.gen).map (·.v)
structure PW (p:Pool α) (L:List TRef) (B:Nat):Prop where
  len:p.cells.length≤B
  small:B<4294967295
  room:p.free.length+L.length≤p.cells.length
  nodup:p.free.Nodup
  free : ∀ i∈p.free,0≤i∧∃ c,p.cells[i.toNat]? = some c∧c.live=false∧c.gen<4294967295
  gen : ∀ c∈p.cells,0≤c.gen∧c.gen≤4294967295∧(c.live=true→1≤c.gen)
  live : ∀ r,(look p r).isSome=true↔r∈L
  ld:L.Nodup
  held:p.held=(L.length:Int)
theorem PW.ok {p:Pool α} {L:List TRef} {B:Nat} (h:PW p L B):pOk p:=by
  refine ⟨Nat.lt_of_le_of_lt h.len h.small,?_,fun i hi=>?_⟩
  · have:=h.room;have:=h.len;have:=h.small;omega
  · obtain ⟨h0,c,hc,_⟩:=h.free i hi
    exact ⟨h0,(List.getElem?_eq_some_iff.1 hc).1⟩
theorem PW.dok {p:Pool α} {L:List TRef} {B:Nat} (h:PW p L B):decide (pOk p)=true:=decide_eq_true h.ok
theorem PW.mono {p:Pool α} {L:List TRef} {B B':Nat} (h:PW p L B) (hB:B≤B') (hs:B'<4294967295):PW p L B':=⟨Nat.le_trans h.len hB,hs,h.room,h.nodup,h.free,h.gen,h.live,h.ld,h.held⟩
theorem PW.perm {p:Pool α} {L L':List TRef} {B:Nat} (h:PW p L B) (hp:L.Perm L'):PW p L' B :=
  ⟨h.len,h.small,by rw [← hp.length_eq];exact h.room,h.nodup,h.free,h.gen,fun r=>(h.live r).trans hp.mem_iff,hp.nodup_iff.1 h.ld,by rw [← hp.length_eq];exact h.held⟩
theorem PW.new (c:Int) (B:Nat) (hB:B<4294967295):PW (⟨[],[],c,0,0⟩:Pool α) [] B :=
  ⟨Nat.zero_le _,hB,Nat.le_refl _,List.Pairwise.nil,fun i hi=>(by cases hi),fun c hc=>(by cases hc),fun r=>by simp [look,lookC],List.Pairwise.nil,rfl⟩
theorem look_cell {p:Pool α} {r:TRef} {v:α} (h:look p r=some v) : ∃ (n:Nat) (c:Cell α),r.index=n∧p.cells[n]? = some c∧c.live=true∧c.gen=r.gen∧c.v=v∧lookC p.cells r.index r.gen=some c:=by
  unfold look at h
  cases hc:lookC p.cells r.index r.gen with
  | none => rw [hc] at h; cases h
  | some c =>
    rw [hc] at h
    obtain ⟨n,h1,h2,h3,h4⟩:=lookC_some hc
    exact ⟨n,c,h1,h2,h3,h4,by simpa using h,rfl⟩
theorem lookC_at {cells:List (Cell α)} {n:Nat} {g:Int}:lookC cells (n:Int) g=match cells[n]? with | some c=>if c.live=true∧c.gen=g then some c else none | none=>none:=by
  unfold lookC
  rw [if_neg (by omega),Int.toNat_natCast]
  cases cells[n]? <;> rfl
theorem PW.get {p:Pool α} {L:List TRef} {B:Nat} (h:PW p L B) {r:TRef} {v:α} (hl:look p r=some v):pGet z p r.index r.gen=some (v,true):=by
  obtain ⟨n,c,h1,h2,h3,h4,h5,h6⟩:=look_cell hl
  unfold pGet Pool.get
  rw [h.dok,h6]
  simp [h5]
theorem PW.mem {p:Pool α} {L:List TRef} {B:Nat} (h:PW p L B) {r:TRef} {v:α} (hl:look p r=some v):r∈L:=(h.live r).1 (by rw [hl];rfl)
theorem PW.ex {p:Pool α} {L:List TRef} {B:Nat} (h:PW p L B) {r:TRef} (hr:r∈L) : ∃ v,look p r=some v:=Option.isSome_iff_exists.1 ((h.live r).2 hr)
theorem PW.gen_ne {p:Pool α} {L:List TRef} {B:Nat} (h:PW p L B) {r:TRef} (hr:r∈L):r.gen≠0:=by
  obtain ⟨v,hv⟩:=h.ex hr
  obtain ⟨n,c,h1,h2,h3,h4,h5,h6⟩:=look_cell hv
  have:=(h.gen c (List.mem_of_getElem? h2)).2.2 h3
  omega
theorem look_set {cells:List (Cell α)} {n:Nat} {c:Cell α} (hc:cells[n]? = some c) (c':Cell α) (r:TRef):lookC (cells.set n c') r.index r.gen=if r.index=n then (if c'.live=true∧c'.gen=r.gen then some c' else none) else lookC cells r.index r.gen:=by
  have hlt:=(List.getElem?_eq_some_iff.1 hc).1
  by_cases h:r.index=n
  · rw [if_pos h,h,lookC_at]
    simp [hlt]
  · rw [if_neg h]
    unfold lookC
    by_cases h0:r.index<0
    · rw [if_pos h0,if_pos h0]
    · rw [if_neg h0,if_neg h0,List.getElem?_set_ne (by omega)]
theorem PW.set {p : Pool α} {L : List TRef} {B : Nat} (h : PW p L B) {r : TRef} {v : α} (hl : look p r = some v) (v' : α) :
    ∃ p',pSet p r.index r.gen v'=some (true,p')∧PW p' L B∧look p' r=some v'∧(∀ x,x≠r→look p' x=look p x)∧p'.cap=p.cap:=by
  obtain ⟨n,c,h1,h2,h3,h4,h5,h6⟩:=look_cell hl
  have hlt:=(List.getElem?_eq_some_iff.1 h2).1
  refine ⟨(p.set r.index r.gen v').2,?_,?_,?_,?_,?_⟩
  · unfold pSet
    rw [h.dok]
    simp only [cond_true]
    unfold Pool.set
    rw [h6]
  all_goals (unfold Pool.set;rw [h6];try simp only [h1,Int.toNat_natCast])
  · have hlook : ∀ x, (look ({ p with cells := p.cells.set n { c with v := v' }, vis := IntKind.i64.wrap (p.vis + 1) } : Pool α) x).isSome = (look p x).isSome := by
      intro x
      unfold look
      simp only [look_set h2]
      by_cases hx:x.index=n
      · rw [if_pos hx,hx,lookC_at,h2]
        simp only
        by_cases hg:c.live=true∧c.gen=x.gen
        · rw [if_pos hg,if_pos hg];rfl
        · rw [if_neg hg,if_neg hg]
      · rw [if_neg hx]
    refine ⟨by simpa using h.len,h.small,by simpa using h.room,h.nodup,fun i hi=>?_,fun d hd=>?_,fun x=>by rw [hlook];exact h.live x,h.ld,h.held⟩
    · obtain ⟨h0,d,hd,hl',hg⟩:=h.free i hi
      refine ⟨h0,d,?_,hl',hg⟩
      have:n≠i.toNat:=by rintro rfl;rw [h2] at hd;cases hd;rw [h3] at hl';cases hl'
      simp only
      rw [List.getElem?_set_ne this];exact hd
    · rcases List.mem_or_eq_of_mem_set hd with hd | rfl
      · exact h.gen d hd
      · exact h.gen c (List.mem_of_getElem? h2)
  · have:=look_set h2 { c with v:=v' } r
    rw [if_pos h1,if_pos ⟨h3,h4⟩] at this
    unfold look
    simp only
    rw [this];rfl
  · intro x hx
    unfold look
    simp only [look_set h2]
    by_cases hi:x.index=n
    · rw [if_pos hi,hi,lookC_at,h2]
      have : ¬ (c.live=true∧c.gen=x.gen):=fun hc=>hx (ref_ext (hi.trans h1.symm) (hc.2.symm.trans h4))
      simp only
      rw [if_neg this,if_neg this]
    · rw [if_neg hi]
theorem PW.drop {p : Pool α} {L : List TRef} {B : Nat} (h : PW p L B) {r : TRef} {v : α} (hl : look p r = some v) :
    ∃ p',pDrop z p r.index r.gen=some ((v,true),p')∧PW p' (L.erase r) B∧(∀ x,x≠r→look p' x=look p x)∧p'.cap=p.cap:=by
  obtain ⟨n,c,h1,h2,h3,h4,h5,h6⟩:=look_cell hl
  have hlt:=(List.getElem?_eq_some_iff.1 h2).1
  have hm:=h.mem hl
  have hlen:(L.erase r).length=L.length - 1:=List.length_erase_of_mem hm
  have hpos:0<L.length:=List.length_pos_of_mem hm
  have hgc:=h.gen c (List.mem_of_getElem? h2)
  refine ⟨(p.drop z r.index r.gen).2,?_,?_,?_,?_⟩
  · unfold pDrop
    rw [h.dok]
    simp only [cond_true]
    unfold Pool.drop
    rw [h6]
    simp [h5]
  all_goals (unfold Pool.drop;rw [h6];try simp only [h1,Int.toNat_natCast])
  · have hlook : ∀ x, (look (⟨p.cells.set n ⟨z, c.gen, false⟩, bif decide (c.gen < 4294967295) then p.free ++ [(n : Int)] else p.free, p.cap, IntKind.i64.wrap (p.held - 1), IntKind.i64.wrap (p.vis + 1)⟩ : Pool α) x).isSome = true ↔ x ∈ L.erase r := by
      intro x
      rw [h.ld.mem_erase_iff]
      unfold look
      simp only [look_set h2]
      by_cases hi:x.index=n
      · rw [if_pos hi]
        simp only [Bool.false_eq_true,false_and,if_false,Option.map_none,Option.isSome_none,false_iff,not_and]
        intro hne hx
        obtain ⟨v',hv'⟩:=h.ex hx
        obtain ⟨n',c',g1,g2,g3,g4,g5,g6⟩:=look_cell hv'
        have:n'=n:=by omega
        subst this
        rw [h2] at g2;cases g2
        exact hne (ref_ext (hi.trans h1.symm) (g4.symm.trans h4))
      · rw [if_neg hi]
        have:=h.live x
        unfold look at this
        rw [this]
        exact ⟨fun hx=>⟨fun e=>hi (by rw [e];exact h1),hx⟩,fun hx=>hx.2⟩
    have hnf:(n:Int)∉p.free:=fun hn=>by
      obtain ⟨_,d,hd,hl',_⟩:=h.free _ hn
      rw [Int.toNat_natCast,h2] at hd;cases hd;rw [h3] at hl';cases hl'
    have hheld:IntKind.i64.wrap (p.held - 1)=((L.erase r).length:Int):=by
      have e:=h.held
      have hB:=h.room;have hB2:=h.len;have hB3:=h.small
      have:w64 (p.held - 1)=p.held - 1:=w64_id (by omega) (by omega)
      rw [show IntKind.i64.wrap (p.held - 1)=w64 (p.held - 1) from rfl,this,hlen];omega
    refine ⟨by simpa using h.len,h.small,?_,?_,fun i hi=>?_,fun d hd=>?_,hlook,h.ld.erase r,hheld⟩
    · have:=h.room
      cases decide (c.gen<4294967295) <;> simp <;> omega
    · cases decide (c.gen<4294967295)
      · exact h.nodup
      · simp only [cond_true]
        refine List.nodup_append.2 ⟨h.nodup,List.pairwise_singleton _ _,fun a ha b hb=>?_⟩
        simp at hb;subst hb;rintro rfl;exact hnf ha
    · have hi' : i ∈ p.free ∨ (i = (n : Int) ∧ c.gen < 4294967295) := by
        revert hi
        by_cases hg:c.gen<4294967295
        · simp only [hg,decide_true,cond_true,List.mem_append,List.mem_singleton]
          rintro (hi | hi)
          · exact .inl hi
          · exact .inr ⟨hi,trivial⟩
        · simp only [hg,decide_false,cond_false];exact .inl
      rcases hi' with hi' | ⟨rfl,hg⟩
      · obtain ⟨h0,d,hd,hl',hg⟩:=h.free i hi'
        refine ⟨h0,d,?_,hl',hg⟩
        have:n≠i.toNat:=fun e=>hnf (by rw [show (n:Int)=i by omega];exact hi')
        simp only
        rw [List.getElem?_set_ne this];exact hd
      · refine ⟨by omega,⟨z,c.gen,false⟩,?_,rfl,hg⟩
        simp [hlt]
    · rcases List.mem_or_eq_of_mem_set hd with hd | rfl
      · exact h.gen d hd
      · exact ⟨hgc.1,hgc.2.1,fun hh=>by cases hh⟩
  · intro x hx
    unfold look
    simp only [look_set h2]
    by_cases hi:x.index=n
    · rw [if_pos hi,hi,lookC_at,h2]
      have : ¬ (c.live=true∧c.gen=x.gen):=fun hc=>hx (ref_ext (hi.trans h1.symm) (hc.2.symm.trans h4))
      simp only [Bool.false_eq_true,false_and,if_false]
      rw [if_neg this]
    · rw [if_neg hi]
theorem PW.put_full {p:Pool α} {L:List TRef} {B:Nat} (h:PW p L B) (hc:(L.length:Int)=p.cap) (v:α):pPut z p v=some (((0,0),false),p):=by
  unfold pPut Pool.put
  rw [h.dok,if_pos (h.held.trans hc)]
  rfl
theorem PW.put {p : Pool α} {L : List TRef} {B : Nat} (h : PW p L B) (hc : (L.length : Int) ≠ p.cap) (hB : B + 1 < 4294967295) (v : α) :
    ∃ (r:TRef) (p':Pool α),pPut z p v=some (((r.index,r.gen),true),p')∧r∉L∧r.gen≠0∧PW p' (r::L) (B+1)∧look p' r=some v∧(∀ x,x≠r→look p' x=look p x)∧p'.cap=p.cap:=by
  have hh : ¬ p.held=p.cap:=fun e=>hc (h.held.symm.trans e)
  have hr:=h.room
  have hheld:IntKind.i64.wrap (p.held+1)=((L.length+1:Nat):Int):=by
    have e:=h.held
    have hB2:=h.len
    rw [show IntKind.i64.wrap (p.held+1)=w64 (p.held+1) from rfl,w64_id (by omega) (by omega)];omega
  cases hl:p.free.getLast? with
  | none =>
    have hf:p.free=[]:=by simpa using hl
    have hnx:p.next z=((p.cells.length:Int),{ p with cells:=p.cells++[⟨z,0,false⟩] }):=by unfold Pool.next;rw [hl]
    have hcc:(p.cells++[⟨z,0,false⟩])[p.cells.length]? = some ⟨z,0,false⟩:=by simp
    have hput:p.put z v=((((p.cells.length:Int),1),true),⟨p.cells++[⟨v,1,true⟩],p.free,p.cap,IntKind.i64.wrap (p.held+1),p.vis⟩):=by
      unfold Pool.put
      rw [if_neg hh,hnx]
      simp only [Int.toNat_natCast,hcc,Pool.lay]
      simp
      rfl
    have hlook : ∀ x:TRef,lookC (p.cells++[⟨v,1,true⟩]) x.index x.gen=if x.index=(p.cells.length:Int) then (if (1:Int)=x.gen then some ⟨v,1,true⟩ else none) else lookC p.cells x.index x.gen:=by
      intro x
      by_cases hi:x.index=(p.cells.length:Int)
      · rw [if_pos hi,hi,lookC_at];simp
      · rw [if_neg hi]
        unfold lookC
        by_cases h0:x.index<0
        · rw [if_pos h0,if_pos h0]
        · rw [if_neg h0,if_neg h0]
          by_cases h1:x.index.toNat<p.cells.length
          · rw [List.getElem?_append_left h1]
          · rw [List.getElem?_eq_none (by simp;omega),List.getElem?_eq_none (by omega)]
    have hnone : ∀ g:Int,look p ⟨(p.cells.length:Int),g⟩=none:=by intro g;unfold look;simp [lookC_at]
    refine ⟨⟨(p.cells.length:Int),1⟩,⟨p.cells++[⟨v,1,true⟩],p.free,p.cap,IntKind.i64.wrap (p.held+1),p.vis⟩,by unfold pPut;rw [h.dok,hput];rfl,?_,by simp,?_,?_,?_,rfl⟩
    · intro hm
      have:=(h.live _).2 hm
      rw [hnone] at this;cases this
    · refine ⟨by have:=h.len;simp;omega,hB,by simp [hf];simp [hf] at hr;omega,h.nodup,fun i hi=>(by rw [hf] at hi;cases hi),fun d hd=>?_,fun x=>?_,?_,hheld⟩
      · rcases List.mem_append.1 hd with hd | hd
        · exact h.gen d hd
        · simp at hd;subst hd;simp
      · unfold look
        simp only [hlook]
        by_cases hi:x.index=(p.cells.length:Int)
        · rw [if_pos hi]
          by_cases hg:(1:Int)=x.gen
          · rw [if_pos hg]
            simp only [Option.map_some,Option.isSome_some,List.mem_cons,true_iff]
            exact .inl (ref_ext hi hg.symm)
          · rw [if_neg hg]
            simp only [Option.map_none,Option.isSome_none,Bool.false_eq_true,List.mem_cons,false_iff,not_or]
            refine ⟨fun e=>hg (by rw [e]),fun hm=>?_⟩
            have:=(h.live _).2 hm
            rw [show x=⟨(p.cells.length:Int),x.gen⟩ from ref_ext hi rfl,hnone] at this;cases this
        · rw [if_neg hi]
          have:=h.live x
          unfold look at this
          rw [this,List.mem_cons]
          exact ⟨.inr,fun hm=>hm.resolve_left (fun e=>hi (by rw [e]))⟩
      · refine List.nodup_cons.2 ⟨fun hm=>?_,h.ld⟩
        have:=(h.live _).2 hm
        rw [hnone] at this;cases this
    · have:=hlook ⟨(p.cells.length:Int),1⟩
      rw [if_pos rfl,if_pos rfl] at this
      unfold look
      simp only
      rw [this];rfl
    · intro x hx
      unfold look
      simp only [hlook]
      by_cases hi:x.index=(p.cells.length:Int)
      · rw [if_pos hi]
        have : ¬ ((1:Int)=x.gen):=fun e=>hx (ref_ext hi e.symm)
        rw [if_neg this,hi,lookC_at];simp
      · rw [if_neg hi]
  | some i =>
    have hm:i∈p.free:=List.mem_of_getLast? hl
    obtain ⟨h0,c,hcell,hlv,hg⟩:=h.free i hm
    have hlt:=(List.getElem?_eq_some_iff.1 hcell).1
    have hsplit:p.free=p.free.dropLast++[i]:=by
      have hne:p.free≠[]:=List.ne_nil_of_mem hm
      have:=List.dropLast_concat_getLast hne
      rw [List.getLast?_eq_some_getLast hne] at hl
      simp at hl;rw [hl] at this;exact this.symm
    have hgc:=h.gen c (List.mem_of_getElem? hcell)
    have hnx:p.next z=(i,{ p with free:=p.free.dropLast }):=by unfold Pool.next;rw [hl]
    have hgw:IntKind.i64.wrap (c.gen+1)=c.gen+1:=by
      rw [show IntKind.i64.wrap (c.gen+1)=w64 (c.gen+1) from rfl,w64_id (by omega) (by omega)]
    have hput:p.put z v=(((i,c.gen+1),true),⟨p.cells.set i.toNat ⟨v,c.gen+1,true⟩,p.free.dropLast,p.cap,IntKind.i64.wrap (p.held+1),p.vis⟩):=by
      unfold Pool.put
      rw [if_neg hh,hnx]
      simp only [hcell,Pool.lay,hgw]
    have hnone : ∀ x:TRef,x.index=i→look p x=none:=by
      intro x hx
      unfold look
      have:lookC p.cells x.index x.gen=none:=by
        rw [hx,show i=((i.toNat:Nat):Int) by omega,lookC_at,hcell]
        simp [hlv]
      rw [this];rfl
    have hii : ∀ x:TRef,x.index=((i.toNat:Nat):Int)↔x.index=i:=fun x=>by omega
    refine ⟨⟨i,c.gen+1⟩,⟨p.cells.set i.toNat ⟨v,c.gen+1,true⟩,p.free.dropLast,p.cap,IntKind.i64.wrap (p.held+1),p.vis⟩,by unfold pPut;rw [h.dok,hput];rfl,?_,by simp;omega,?_,?_,?_,rfl⟩
    · intro hmm
      have:=(h.live _).2 hmm
      rw [hnone _ rfl] at this;cases this
    · have hdl:p.free.dropLast.length=p.free.length - 1:=by simp
      have hfp:0<p.free.length:=List.length_pos_of_mem hm
      refine ⟨by have:=h.len;simp;omega,hB,by simp;omega,?_,fun j hj=>?_,fun d hd=>?_,fun x=>?_,?_,hheld⟩
      · have:=h.nodup
        rw [hsplit] at this
        exact (List.nodup_append.1 this).1
      · have hj':j∈p.free:=by rw [hsplit];exact List.mem_append_left _ hj
        obtain ⟨j0,d,hd,hl',hg'⟩:=h.free j hj'
        refine ⟨j0,d,?_,hl',hg'⟩
        have hne:i.toNat≠j.toNat:=by
          intro e
          have:i=j:=by omega
          subst this
          have hn:=h.nodup
          rw [hsplit] at hn
          exact (List.nodup_append.1 hn).2.2 i hj i (by simp) rfl
        simp only
        rw [List.getElem?_set_ne hne];exact hd
      · rcases List.mem_or_eq_of_mem_set hd with hd | rfl
        · exact h.gen d hd
        · exact ⟨by simp only;omega,by simp only;omega,fun _=>by simp only;omega⟩
      · unfold look
        simp only [look_set hcell,hii]
        by_cases hi:x.index=i
        · rw [if_pos hi]
          by_cases hgx:c.gen+1=x.gen
          · simp only [hgx,and_self,if_true,Option.map_some,Option.isSome_some,List.mem_cons,true_iff]
            exact .inl (ref_ext hi rfl)
          · simp only [hgx,and_false,if_false,Option.map_none,Option.isSome_none,Bool.false_eq_true,List.mem_cons,false_iff,not_or]
            refine ⟨fun e=>hgx (by rw [e]),fun hmm=>?_⟩
            have:=(h.live _).2 hmm
            rw [hnone _ hi] at this;cases this
        · rw [if_neg hi]
          have:=h.live x
          unfold look at this
          rw [this,List.mem_cons]
          exact ⟨.inr,fun hmm=>hmm.resolve_left (fun e=>hi (by rw [e]))⟩
      · refine List.nodup_cons.2 ⟨fun hmm=>?_,h.ld⟩
        have:=(h.live _).2 hmm
        rw [hnone _ rfl] at this;cases this
    · have:=look_set hcell ⟨v,c.gen+1,true⟩ ⟨i,c.gen+1⟩
      rw [if_pos (by simp only;omega),if_pos ⟨rfl,rfl⟩] at this
      unfold look
      simp only
      rw [this];rfl
    · intro x hx
      by_cases hi:x.index=i
      · rw [hnone x hi]
        unfold look
        simp only [look_set hcell,hii]
        have : ¬ (c.gen+1=x.gen):=fun e=>hx (ref_ext hi e.symm)
        rw [if_pos hi];simp [this]
      · unfold look
        simp only [look_set hcell,hii]
        rw [if_neg hi]
end
end Go.Proofs.YtgjbibabegabnaaGreat
namespace Go.Proofs.YtgjbibabegabnaaGreat
open Go Go.Proofs.YtgjbibabegabnaaGreat.Sx
inductive Tr (E:Type) where
  | nil
  | node (r : TRef) (e : E) (l u : Tr E)
namespace Tr
variable {E:Type}
def size:Tr E→Nat
  | nil => 0
  | node _ _ l u => l.size + 1 + u.size
abbrev w (t:Tr E):Nat:=t.size+1
def toList:Tr E→List E
  | nil => []
  | node _ e l u => l.toList ++ e :: u.toList
def refs:Tr E→List TRef
  | nil => []
  | node r _ l u => l.refs ++ r :: u.refs
theorem len_toList : ∀ t:Tr E,t.toList.length=t.size
  | nil => rfl
  | node _ _ l u => by simp only [toList, List.length_append, List.length_cons, len_toList l, len_toList u, size]; omega
theorem len_refs : ∀ t:Tr E,t.refs.length=t.size
  | nil => rfl
  | node _ _ l u => by simp only [refs, List.length_append, List.length_cons, len_refs l, len_refs u, size]; omega
def turnL:Tr E→Tr E
  | node r e l (node r2 e2 a b) => node r2 e2 (node r e l a) b
  | t => t
def turnR:Tr E→Tr E
  | node r e (node r2 e2 a b) u => node r2 e2 a (node r e b u)
  | t => t
def bal:Tr E→Tr E
  | nil => nil
  | node r e l u =>
    if u.w>3*l.w then (match u with
      | node r2 e2 a b => if a.w ≥ 2 * b.w then turnL (node r e l (turnR (node r2 e2 a b))) else turnL (node r e l (node r2 e2 a b))
      | nil => node r e l u)
    else if l.w>3*u.w then (match l with
      | node r2 e2 a b => if b.w ≥ 2 * a.w then turnR (node r e (turnL (node r2 e2 a b)) u) else turnR (node r e (node r2 e2 a b) u)
      | nil => node r e l u)
    else node r e l u
def link:Nat→Tr E→TRef→E→Tr E→Tr E
  | 0, l, r, e, u => node r e l u
  | n + 1, l, r, e, u =>
    if u.w>3*l.w then (match u with
      | node r2 e2 a b => bal (node r2 e2 (link n l r e a) b)
      | nil => node r e l u)
    else if l.w>3*u.w then (match l with
      | node r2 e2 a b => bal (node r2 e2 a (link n b r e u))
      | nil => node r e l u)
    else node r e l u
theorem bal_node (r : TRef) (e : E) (l u : Tr E) : bal (node r e l u) =
    if u.w>3*l.w then (match u with
      | node r2 e2 a b => if a.w ≥ 2 * b.w then turnL (node r e l (turnR (node r2 e2 a b))) else turnL (node r e l (node r2 e2 a b))
      | nil => node r e l u)
    else if l.w>3*u.w then (match l with
      | node r2 e2 a b => if b.w ≥ 2 * a.w then turnR (node r e (turnL (node r2 e2 a b)) u) else turnR (node r e (node r2 e2 a b) u)
      | nil => node r e l u)
    else node r e l u:=by rw [bal.eq_def]
theorem link_succ (n : Nat) (l : Tr E) (r : TRef) (e : E) (u : Tr E) : link (n + 1) l r e u =
    if u.w>3*l.w then (match u with
      | node r2 e2 a b => bal (node r2 e2 (link n l r e a) b)
      | nil => node r e l u)
    else if l.w>3*u.w then (match l with
      | node r2 e2 a b => bal (node r2 e2 a (link n b r e u))
      | nil => node r e l u)
    else node r e l u:=by rw [link.eq_def]
theorem turnL_list (t:Tr E):t.turnL.toList=t.toList:=by
  unfold turnL;split <;> simp [toList]
theorem turnR_list (t:Tr E):t.turnR.toList=t.toList:=by
  unfold turnR;split <;> simp [toList]
theorem turnL_refs (t:Tr E):t.turnL.refs=t.refs:=by
  unfold turnL;split <;> simp [refs]
theorem turnR_refs (t:Tr E):t.turnR.refs=t.refs:=by
  unfold turnR;split <;> simp [refs]
theorem bal_list (t:Tr E):t.bal.toList=t.toList:=by
  cases t with
  | nil => rfl
  | node r e l u =>
    rw [bal_node]
    split
    · cases u with
      | nil => rfl
      | node r2 e2 a b =>
        simp only
        split
        · rw [turnL_list];simp only [toList];rw [turnR_list];simp [toList]
        · rw [turnL_list]
    · split
      · cases l with
        | nil => rfl
        | node r2 e2 a b =>
          simp only
          split
          · rw [turnR_list];simp only [toList];rw [turnL_list];simp [toList]
          · rw [turnR_list]
      · rfl
theorem bal_refs (t:Tr E):t.bal.refs=t.refs:=by
  cases t with
  | nil => rfl
  | node r e l u =>
    rw [bal_node]
    split
    · cases u with
      | nil => rfl
      | node r2 e2 a b =>
        simp only
        split
        · rw [turnL_refs];simp only [refs];rw [turnR_refs];simp [refs]
        · rw [turnL_refs]
    · split
      · cases l with
        | nil => rfl
        | node r2 e2 a b =>
          simp only
          split
          · rw [turnR_refs];simp only [refs];rw [turnL_refs];simp [refs]
          · rw [turnR_refs]
      · rfl
theorem link_list : ∀ (n:Nat) (l:Tr E) (r:TRef) (e:E) (u:Tr E),(link n l r e u).toList=l.toList++e::u.toList
  | 0, l, r, e, u => rfl
  | n + 1, l, r, e, u => by
    rw [link_succ]
    split
    · cases u with
      | nil => rfl
      | node r2 e2 a b => simp only [bal_list, toList, link_list n l r e a]; simp
    · split
      · cases l with
        | nil => rfl
        | node r2 e2 a b => simp only [bal_list, toList, link_list n b r e u]; simp
      · rfl
theorem link_refs : ∀ (n:Nat) (l:Tr E) (r:TRef) (e:E) (u:Tr E),(link n l r e u).refs=l.refs++r::u.refs
  | 0, l, r, e, u => rfl
  | n + 1, l, r, e, u => by
    rw [link_succ]
    split
    · cases u with
      | nil => rfl
      | node r2 e2 a b => simp only [bal_refs, refs, link_refs n l r e a]; simp
    · split
      · cases l with
        | nil => rfl
        | node r2 e2 a b => simp only [bal_refs, refs, link_refs n b r e u]; simp
      · rfl
theorem link_size (n:Nat) (l:Tr E) (r:TRef) (e:E) (u:Tr E):(link n l r e u).size=l.size+1+u.size:=by
  rw [← len_toList,link_list];simp [len_toList];omega
def last (k:Nat):Tr E→Tr E×Option (TRef×E)
  | nil => (nil, none)
  | node r e l u => match u with
    | nil => (l, some (r, e))
    | node r2 e2 a b => (link k l r e (last k (node r2 e2 a b)).1, (last k (node r2 e2 a b)).2)
def merge (k:Nat) (l u:Tr E):Tr E:=match l,u with
  | nil, u => u
  | l, nil => l
  | l, u => match last k l with
    | (rest, some (m, e)) => link k rest m e u
    | (rest, none) => u
theorem last_spec (k:Nat) : ∀ (t:Tr E),t≠nil→∃ m e,(last k t).2=some (m,e)∧t.toList=(last k t).1.toList++[e]∧t.refs=(last k t).1.refs++[m]
  | nil, h => absurd rfl h
  | node r e l nil, _ => ⟨r, e, rfl, by simp [last, toList], by simp [last, refs]⟩
  | node r e l (node r2 e2 a b), _ => by
    obtain ⟨m,x,h1,h2,h3⟩:=last_spec k (node r2 e2 a b) (by simp)
    refine ⟨m,x,?_,?_,?_⟩
    · unfold last;exact h1
    · have:(last k (node r e l (node r2 e2 a b))).1=link k l r e (last k (node r2 e2 a b)).1:=by rw [last]
      rw [this,link_list]
      have e1:(node r e l (node r2 e2 a b)).toList=l.toList++e::(node r2 e2 a b).toList:=rfl
      rw [e1,h2];simp
    · have:(last k (node r e l (node r2 e2 a b))).1=link k l r e (last k (node r2 e2 a b)).1:=by rw [last]
      rw [this,link_refs]
      have e1:(node r e l (node r2 e2 a b)).refs=l.refs++r::(node r2 e2 a b).refs:=rfl
      rw [e1,h3];simp
theorem merge_spec (k:Nat) (l u:Tr E):(merge k l u).toList=l.toList++u.toList∧(merge k l u).refs=l.refs++u.refs:=by
  cases l with
  | nil => simp [merge, toList, refs]
  | node r e a b =>
    cases u with
    | nil => simp [merge, toList, refs]
    | node r2 e2 c d =>
      obtain ⟨m,x,h1,h2,h3⟩:=last_spec k (node r e a b) (by simp)
      have:merge k (node r e a b) (node r2 e2 c d)=link k (last k (node r e a b)).1 m x (node r2 e2 c d):=by
        unfold merge
        have:last k (node r e a b)=((last k (node r e a b)).1,some (m,x)):=by rw [← h1]
        simp only
        rw [this]
      rw [this,link_list,link_refs,h2,h3]
      simp
end Tr
structure OpsOk {E A:Type} (O:Ops E A) (k N:Nat) (G:E→Prop) (S:A→List E→Prop) (lt:E→E→Prop):Prop where
  cmp : ∀ a b,∃ c,O.cmp k a b=some c∧(c<0↔lt a b)∧(c>0↔lt b a)
  sum : ∀ e,G e→∃ s,O.sum k e=some s∧S s [e]
  plus : ∀ {a b l r},S a l→S b r→(∀ e∈l++r,G e)→(l++r).length<N→∃ c,O.plus k a b=some c∧S c (l++r)
  zero:S O.zA []
  irrefl : ∀ a,¬ lt a a
  trans : ∀ {a b c},lt a b→lt b c→lt a c
  left : ∀ {a b c},¬ lt a b→¬ lt b a→lt a c→lt b c
  right : ∀ {a b c},¬ lt a b→¬ lt b a→lt c a→lt c b
  big:N<4294967296
section
variable {E A:Type} {O:Ops E A} {k N:Nat} {G:E→Prop} {S:A→List E→Prop} {lt:E→E→Prop}
abbrev PN (E A:Type):=Pool (TNode E A)
def Rep (S:A→List E→Prop) (p:PN E A):TRef→Tr E→Prop
  | r, .nil => r = zTRef
  | r, .node r' e l u => r = r' ∧ r.gen ≠ 0 ∧ ∃ n, look p r = some n ∧ n.e = e ∧ n.size = ((l.size + 1 + u.size : Nat) : Int) ∧ S n.sum (l.toList ++ e :: u.toList) ∧ Rep S p n.left l ∧ Rep S p n.right u
theorem Rep.frame {p p':PN E A} : ∀ {t:Tr E} {r:TRef},Rep S p r t→(∀ x∈t.refs,look p' x=look p x)→Rep S p' r t
  | .nil, _, h, _ => h
  | .node r' e l u, r, ⟨h1, h2, n, h3, h4, h5, h6, h7, h8⟩, hf => by
    subst h1
    refine ⟨rfl,h2,n,(hf r (by simp [Tr.refs])).trans h3,h4,h5,h6,h7.frame (fun x hx=>hf x (by simp [Tr.refs,hx])),h8.frame (fun x hx=>hf x (by simp [Tr.refs,hx]))⟩
theorem Rep.sub {p:PN E A} {L:List TRef} {B:Nat} (hP:PW p L B) : ∀ {t:Tr E} {r:TRef},Rep S p r t→∀ x∈t.refs,x∈L
  | .nil, _, _, x, hx => by simp [Tr.refs] at hx
  | .node r' e l u, r, ⟨h1, h2, n, h3, h4, h5, h6, h7, h8⟩, x, hx => by
    subst h1
    simp only [Tr.refs,List.mem_append,List.mem_cons] at hx
    rcases hx with hx | rfl | hx
    · exact h7.sub hP x hx
    · exact hP.mem h3
    · exact h8.sub hP x hx
theorem Rep.nil_iff {p:PN E A} {r:TRef} {t:Tr E} (h:Rep S p r t):r.gen=0↔t=.nil:=by
  cases t with
  | nil => have : r = zTRef := h; rw [this]; simp
  | node r' e l u => obtain ⟨h1, h2, _⟩ := h; simp [h2]
structure IsN (S:A→List E→Prop) (p:PN E A) (r:TRef) (t:Tr E) (n:TNode E A):Prop where
  size:n.size=(t.size:Int)
  sum:S n.sum t.toList
  node : ∀ {r' e l u},t=.node r' e l u→r=r'∧n.e=e∧Rep S p n.left l∧Rep S p n.right u∧look p r=some n
theorem get_ok (ok:OpsOk O k N G S lt) {p:PN E A} {L:List TRef} {B:Nat} (hP:PW p L B) {t:Tr E} {r:TRef} (h:Rep S p r t) : ∃ n,Tree_get.f O k p r=some n∧IsN S p r t n:=by
  unfold Tree_get.f
  cases t with
  | nil =>
    have:r=zTRef:=h
    subst this
    exact ⟨zNode O,rfl,rfl,ok.zero,fun e=>by cases e⟩
  | node r' e l u =>
    obtain ⟨h1,h2,n,h3,h4,h5,h6,h7,h8⟩:=h
    subst h1
    have e0:(r.gen == 0)=false:=by simpa using h2
    refine ⟨n,?_,h5,by rw [Tr.toList];exact h6,fun e=>by cases e;exact ⟨rfl,h4,h7,h8,h3⟩⟩
    rw [e0,hP.get h3];rfl
theorem weight_ok (ok:OpsOk O k N G S lt) {p:PN E A} {L:List TRef} {B:Nat} (hP:PW p L B) {t:Tr E} {r:TRef} (h:Rep S p r t) (hs:t.size<4294967296):Tree_weight.f O k p r=some ((t.w:Nat):Int):=by
  obtain ⟨n,h1,h2⟩:=get_ok ok hP h
  unfold Tree_weight.f
  rw [h1]
  simp only [Option.bind_some,h2.size]
  rw [w64_id (by omega) (by omega)]
  rfl
structure Left (S:A→List E→Prop) (p p':PN E A) (L:List TRef) (B:Nat) (r:TRef) (t:Tr E) (F:List TRef):Prop where
  pw:PW p' L B
  rep:Rep S p' r t
  frame : ∀ x,x∉F→look p' x=look p x
  cap:p'.cap=p.cap
theorem lay_ok (ok : OpsOk O k N G S lt) {p : PN E A} {L : List TRef} {B : Nat} (hP : PW p L B) {r a b : TRef} {n0 : TNode E A} (hr : look p r = some n0) {l u : Tr E} (hl : Rep S p a l) (hu : Rep S p b u)
    (h1:r∉l.refs) (h2:r∉u.refs) (hG : ∀ e∈l.toList++n0.e::u.toList,G e) (hN:l.size+1+u.size<N) : ∃ p',Tree_lay.f O k p r a b=some (r,p')∧Left S p p' L B r (.node r n0.e l u) [r]:=by
  have hg:=hP.gen_ne (hP.mem hr)
  have e0:(r.gen == 0)=false:=by simpa using hg
  have hget:Tree_get.f O k p r=some n0:=by unfold Tree_get.f;rw [e0,hP.get hr];rfl
  obtain ⟨nl,l1,l2⟩:=get_ok ok hP hl
  obtain ⟨nu,u1,u2⟩:=get_ok ok hP hu
  obtain ⟨s,s1,s2⟩:=ok.sum n0.e (hG _ (by simp))
  obtain ⟨c1,c2,c3⟩:=ok.plus l2.sum s2 (fun e he=>hG e (by simp at he ⊢;rcases he with he | he;exact .inl he;exact .inr (.inl he))) (by simp [Tr.len_toList];omega)
  obtain ⟨d1,d2,d3⟩:=ok.plus c3 u2.sum (fun e he=>hG e (by simpa [or_assoc] using he)) (by simp [Tr.len_toList];omega)
  have hb:=ok.big
  have hsz:w64 (w64 (nl.size+1)+nu.size)=((l.size+1+u.size:Nat):Int):=by
    have e1:w64 ((l.size:Int)+1)=(l.size:Int)+1:=w64_id (by omega) (by omega)
    rw [l2.size,u2.size,e1,w64_id (by omega) (by omega)];omega
  obtain ⟨p',q1,q2,q3,q4,q5⟩:=hP.set hr (TNode.mk n0.e a b (w64 (w64 (nl.size+1)+nu.size)) d1)
  refine ⟨p',?_,q2,⟨rfl,hg,_,q3,rfl,hsz,by simpa using d3,hl.frame (fun x hx=>q4 x (fun e=>h1 (e▸hx))),hu.frame (fun x hx=>q4 x (fun e=>h2 (e▸hx)))⟩,fun x hx=>q4 x (by simpa using hx),q5⟩
  unfold Tree_lay.f
  rw [hget,l1,u1]
  simp only [Option.bind_some,s1,c2,d2,q1]
theorem turnLeft_ok (ok : OpsOk O k N G S lt) {p : PN E A} {L : List TRef} {B : Nat} (hP : PW p L B) {r r' r2 : TRef} {e e2 : E} {l a b : Tr E} (h : Rep S p r (.node r' e l (.node r2 e2 a b))) (hnd : (Tr.node r' e l (.node r2 e2 a b)).refs.Nodup)
    (hG : ∀ x∈(Tr.node r' e l (.node r2 e2 a b)).toList,G x) (hN:(Tr.node r' e l (.node r2 e2 a b)).size<N) : ∃ p',Tree_turnLeft.f O k p r=some (r2,p')∧Left S p p' L B r2 (.node r2 e2 (.node r' e l a) b) (Tr.node r' e l (.node r2 e2 a b)).refs:=by
  obtain ⟨n,g1,g2⟩:=get_ok ok hP h
  obtain ⟨rfl,he,hl,hu,hlk⟩:=g2.node rfl
  obtain ⟨n2,g3,g4⟩:=get_ok ok hP hu
  obtain ⟨hr2,he2,ha,hb,hlk2⟩:=g4.node rfl
  simp only [Tr.refs,List.nodup_append,List.nodup_cons,List.mem_append,List.mem_cons,not_or] at hnd
  obtain ⟨nl,⟨⟨nr1,nr2,nr3⟩,na,⟨nb1,nb⟩,nab⟩,nlu⟩:=hnd
  simp only [Tr.toList,List.mem_append,List.mem_cons] at hG
  simp only [Tr.size] at hN
  have hra:r∉a.refs:=nr1
  obtain ⟨p1,q1,q2⟩:=lay_ok ok hP hlk hl ha (fun hm=>nlu _ hm _ (.inl rfl) rfl) nr1 (fun x hx=>hG x (by rw [he] at hx;simp at hx ⊢;rcases hx with hx | hx | hx <;> simp [hx])) (by omega)
  have hb1:Rep S p1 n2.right b:=hb.frame (fun x hx=>q2.frame x (by simp;rintro rfl;exact nr3 hx))
  have hlk2':look p1 r2=some n2:=by rw [q2.frame r2 (by simp;exact fun e=>nr2 e.symm),← hr2];exact hlk2
  have hrep1:Rep S p1 r (.node r e l a):=by have:=q2.rep;rw [he] at this;exact this
  obtain ⟨p2,q3,q4⟩:=lay_ok ok q2.pw hlk2' hrep1 hb1 (by simp only [Tr.refs,List.mem_append,List.mem_cons,not_or];exact ⟨fun hm=>nlu _ hm _ (.inr (.inr (.inl rfl))) rfl,fun e=>nr2 e.symm,fun hm=>nab _ hm _ (.inl rfl) rfl⟩) nb1
    (fun x hx=>hG x (by rw [he2] at hx;simp [Tr.toList] at hx ⊢;rcases hx with hx | hx | hx | hx | hx <;> simp [hx])) (by simp only [Tr.size];omega)
  refine ⟨p2,?_,q4.pw,by have:=q4.rep;rw [he2] at this;exact this,fun x hx=>?_,q4.cap.trans q2.cap⟩
  · unfold Tree_turnLeft.f
    rw [g1]
    simp only [Option.bind_some,g3,q1]
    rw [hr2,q3];rfl
  · simp only [Tr.refs,List.mem_append,List.mem_cons,not_or] at hx
    rw [q4.frame x (by simp;exact hx.2.2.2.1),q2.frame x (by simp;exact hx.2.1)]
theorem turnRight_ok (ok : OpsOk O k N G S lt) {p : PN E A} {L : List TRef} {B : Nat} (hP : PW p L B) {r r' r2 : TRef} {e e2 : E} {u a b : Tr E} (h : Rep S p r (.node r' e (.node r2 e2 a b) u)) (hnd : (Tr.node r' e (.node r2 e2 a b) u).refs.Nodup)
    (hG : ∀ x∈(Tr.node r' e (.node r2 e2 a b) u).toList,G x) (hN:(Tr.node r' e (.node r2 e2 a b) u).size<N) : ∃ p',Tree_turnRight.f O k p r=some (r2,p')∧Left S p p' L B r2 (.node r2 e2 a (.node r' e b u)) (Tr.node r' e (.node r2 e2 a b) u).refs:=by
  obtain ⟨n,g1,g2⟩:=get_ok ok hP h
  obtain ⟨rfl,he,hl,hu,hlk⟩:=g2.node rfl
  obtain ⟨n2,g3,g4⟩:=get_ok ok hP hl
  obtain ⟨hr2,he2,ha,hb,hlk2⟩:=g4.node rfl
  simp only [Tr.refs,List.nodup_append,List.nodup_cons,List.mem_append,List.mem_cons,not_or] at hnd
  obtain ⟨⟨na,⟨nb1,nb⟩,nab⟩,⟨nu1,nu⟩,nlu⟩:=hnd
  simp only [Tr.toList,List.mem_append,List.mem_cons] at hG
  simp only [Tr.size] at hN
  have hne:r2≠r:=fun e=>nlu r2 (.inr (.inl rfl)) r (.inl rfl) e
  obtain ⟨p1,q1,q2⟩:=lay_ok ok hP hlk hb hu (fun hm=>nlu r (.inr (.inr hm)) r (.inl rfl) rfl) nu1 (fun x hx=>hG x (by rw [he] at hx;simp at hx ⊢;rcases hx with hx | hx | hx <;> simp [hx])) (by omega)
  have ha1:Rep S p1 n2.left a:=ha.frame (fun x hx=>q2.frame x (by simp;rintro rfl;exact nlu _ (.inl hx) _ (.inl rfl) rfl))
  have hlk2':look p1 r2=some n2:=by rw [q2.frame r2 (by simp;exact hne),← hr2];exact hlk2
  have hrep1:Rep S p1 r (.node r e b u):=by have:=q2.rep;rw [he] at this;exact this
  obtain ⟨p2,q3,q4⟩:=lay_ok ok q2.pw hlk2' ha1 hrep1 (fun hm=>nab _ hm _ (.inl rfl) rfl) (by simp only [Tr.refs,List.mem_append,List.mem_cons,not_or];exact ⟨nb1,hne,fun hm=>nlu _ (.inr (.inl rfl)) _ (.inr hm) rfl⟩)
    (fun x hx=>hG x (by rw [he2] at hx;simp [Tr.toList] at hx ⊢;rcases hx with hx | hx | hx | hx | hx <;> simp [hx])) (by simp only [Tr.size];omega)
  refine ⟨p2,?_,q4.pw,by have:=q4.rep;rw [he2] at this;exact this,fun x hx=>?_,q4.cap.trans q2.cap⟩
  · unfold Tree_turnRight.f
    rw [g1]
    simp only [Option.bind_some,g3,q1]
    rw [hr2,q3];rfl
  · simp only [Tr.refs,List.mem_append,List.mem_cons,not_or] at hx
    rw [q4.frame x (by simp;exact hx.1.2.1),q2.frame x (by simp;exact hx.2.1)]
end
end Go.Proofs.YtgjbibabegabnaaGreat
namespace Go.Proofs.YtgjbibabegabnaaGreat
open Go Go.Proofs.YtgjbibabegabnaaGreat.Sx
section
variable {E A:Type} {O:Ops E A} {k N:Nat} {G:E→Prop} {S:A→List E→Prop} {lt:E→E→Prop}
theorem dec_gt3 {a b:Nat} (hb:b<4294967296):decide ((a:Int)>w64 (3*(b:Int)))=decide (a>3*b):=by
  rw [w64_id (by omega) (by omega)]
  by_cases h:a>3*b
  · simp only [h,decide_true,decide_eq_true_eq];omega
  · simp only [h,decide_false,decide_eq_false_iff_not];omega
theorem dec_ge2 {a b:Nat} (hb:b<4294967296):decide ((a:Int)≥w64 (2*(b:Int)))=decide (a≥2*b):=by
  rw [w64_id (by omega) (by omega)]
  by_cases h:a≥2*b
  · simp only [h,decide_true,decide_eq_true_eq];omega
  · simp only [h,decide_false,decide_eq_false_iff_not];omega
theorem nodup_left {l u:List TRef} {r:TRef} (h:(l++r::u).Nodup):l.Nodup:=(List.nodup_append.1 h).1
theorem nodup_right {l u:List TRef} {r:TRef} (h:(l++r::u).Nodup):u.Nodup:=(List.nodup_cons.1 (List.nodup_append.1 h).2.1).2
theorem nodup_l {l u:List TRef} {r:TRef} (h:(l++r::u).Nodup):r∉l:=fun hm=>(List.nodup_append.1 h).2.2 r hm r List.mem_cons_self rfl
theorem nodup_u {l u:List TRef} {r:TRef} (h:(l++r::u).Nodup):r∉u:=(List.nodup_cons.1 (List.nodup_append.1 h).2.1).1
theorem nodup_lu {l u:List TRef} {r:TRef} (h:(l++r::u).Nodup) {x:TRef} (hl:x∈l) (hu:x∈u):False:=(List.nodup_append.1 h).2.2 x hl x (List.mem_cons_of_mem _ hu) rfl
theorem balance_ok (ok : OpsOk O k N G S lt) {p : PN E A} {L : List TRef} {B : Nat} (hP : PW p L B) {r r0 : TRef} {e : E} {l u : Tr E} (h : Rep S p r (.node r0 e l u)) (hnd : (Tr.node r0 e l u).refs.Nodup)
    (hG : ∀ x∈(Tr.node r0 e l u).toList,G x) (hN:(Tr.node r0 e l u).size<N) : ∃ r' p',Tree_balance.f O k p r=some (r',p')∧Left S p p' L B r' (Tr.bal (.node r0 e l u)) (Tr.node r0 e l u).refs:=by
  have hbig:=ok.big
  obtain ⟨n,g1,g2⟩:=get_ok ok hP h
  obtain ⟨rfl,he,hl,hu,hlk⟩:=g2.node rfl
  have hN':=hN
  simp only [Tr.size] at hN'
  have wl:=weight_ok ok hP hl (by omega)
  have wu:=weight_ok ok hP hu (by omega)
  unfold Tree_balance.f
  rw [g1]
  simp only [Option.bind_some,wl,wu]
  rw [dec_gt3 (by simp only [Tr.w];omega),dec_gt3 (by simp only [Tr.w];omega),Tr.bal_node]
  by_cases c1:u.w>3*l.w
  · simp only [c1,decide_true,cond_true,if_true]
    cases u with
    | nil => simp only [Tr.w, Tr.size] at c1; omega
    | node r2 e2 a b =>
      obtain ⟨n2,q1,q2⟩:=get_ok ok hP hu
      obtain ⟨hr2,he2,ha,hb,hlk2⟩:=q2.node rfl
      simp only [Tr.size] at hN'
      have wa:=weight_ok ok hP ha (by omega)
      have wb:=weight_ok ok hP hb (by omega)
      simp only [q1,Option.bind_some,wa,wb]
      rw [dec_ge2 (by simp only [Tr.w];omega)]
      by_cases c2:a.w≥2*b.w
      · simp only [c2,decide_true,cond_true,if_true]
        cases a with
        | nil => simp only [Tr.w, Tr.size] at c2; omega
        | node r3 e3 c d =>
          have hndu:(Tr.node r2 e2 (.node r3 e3 c d) b).refs.Nodup:=nodup_right hnd
          obtain ⟨p1,t1,t2⟩:=turnRight_ok ok hP hu hndu (fun x hx=>hG x (by simp [Tr.toList] at hx ⊢;rcases hx with hx | hx | hx | hx | hx <;> simp [hx])) (by simp only [Tr.size] at hN ⊢;omega)
          have hlk1:look p1 r=some n:=by rw [t2.frame r (nodup_u hnd)];exact hlk
          have hl1:Rep S p1 n.left l:=hl.frame (fun x hx=>t2.frame x (fun hm=>nodup_lu hnd hx hm))
          have hrf:(Tr.node r3 e3 c (.node r2 e2 d b)).refs=(Tr.node r2 e2 (.node r3 e3 c d) b).refs:=by simp [Tr.refs]
          have htl:(Tr.node r3 e3 c (.node r2 e2 d b)).toList=(Tr.node r2 e2 (.node r3 e3 c d) b).toList:=by simp [Tr.toList]
          obtain ⟨p2,v1,v2⟩:=lay_ok ok t2.pw hlk1 hl1 t2.rep (nodup_l hnd) (by rw [hrf];exact nodup_u hnd) (fun x hx=>hG x (by rw [he,htl] at hx;exact hx)) (by simp only [Tr.size] at hN ⊢;omega)
          have hrep:Rep S p2 r (.node r e l (.node r3 e3 c (.node r2 e2 d b))):=by have:=v2.rep;rw [he] at this;exact this
          obtain ⟨p3,y1,y2⟩:=turnLeft_ok ok v2.pw hrep (by simp only [Tr.refs] at hnd ⊢;simpa using hnd) (fun x hx=>hG x (by simp [Tr.toList] at hx ⊢;exact hx)) (by simp only [Tr.size] at hN ⊢;omega)
          refine ⟨r3,p3,?_,y2.pw,?_,fun x hx=>?_,y2.cap.trans (v2.cap.trans t2.cap)⟩
          · simp only [t1,Option.bind_some,v1,y1]
          · simp only [Tr.turnR,Tr.turnL];exact y2.rep
          · have hx2:x∉(Tr.node r e l (.node r3 e3 c (.node r2 e2 d b))).refs:=by simpa [Tr.refs] using hx
            simp only [Tr.refs,List.mem_append,List.mem_cons,not_or] at hx
            rw [y2.frame x hx2,v2.frame x (by simp;exact hx.2.1),t2.frame x (by simp only [Tr.refs,List.mem_append,List.mem_cons,not_or];exact hx.2.2)]
      · simp only [c2,decide_false,cond_false,if_false]
        obtain ⟨p1,t1,t2⟩:=turnLeft_ok ok hP h hnd hG hN
        refine ⟨r2,p1,?_,t2.pw,by simp only [Tr.turnL];exact t2.rep,t2.frame,t2.cap⟩
        simp only [t1,Option.bind_some]
  · simp only [c1,decide_false,cond_false,if_false]
    by_cases c3:l.w>3*u.w
    · simp only [c3,decide_true,cond_true,if_true]
      cases l with
      | nil => simp only [Tr.w, Tr.size] at c3; omega
      | node r2 e2 a b =>
        obtain ⟨n2,q1,q2⟩:=get_ok ok hP hl
        obtain ⟨hr2,he2,ha,hb,hlk2⟩:=q2.node rfl
        simp only [Tr.size] at hN'
        have wa:=weight_ok ok hP ha (by omega)
        have wb:=weight_ok ok hP hb (by omega)
        simp only [q1,Option.bind_some,wa,wb]
        rw [dec_ge2 (by simp only [Tr.w];omega)]
        by_cases c2:b.w≥2*a.w
        · simp only [c2,decide_true,cond_true,if_true]
          cases b with
          | nil => simp only [Tr.w, Tr.size] at c2; omega
          | node r3 e3 c d =>
            have hndl:(Tr.node r2 e2 a (.node r3 e3 c d)).refs.Nodup:=nodup_left hnd
            obtain ⟨p1,t1,t2⟩:=turnLeft_ok ok hP hl hndl (fun x hx=>hG x (by simp [Tr.toList] at hx ⊢;rcases hx with hx | hx | hx | hx | hx <;> simp [hx])) (by simp only [Tr.size] at hN ⊢;omega)
            have hlk1:look p1 r=some n:=by rw [t2.frame r (nodup_l hnd)];exact hlk
            have hu1:Rep S p1 n.right u:=hu.frame (fun x hx=>t2.frame x (fun hm=>nodup_lu hnd hm hx))
            have hrf:(Tr.node r3 e3 (.node r2 e2 a c) d).refs=(Tr.node r2 e2 a (.node r3 e3 c d)).refs:=by simp [Tr.refs]
            have htl:(Tr.node r3 e3 (.node r2 e2 a c) d).toList=(Tr.node r2 e2 a (.node r3 e3 c d)).toList:=by simp [Tr.toList]
            obtain ⟨p2,v1,v2⟩:=lay_ok ok t2.pw hlk1 t2.rep hu1 (by rw [hrf];exact nodup_l hnd) (nodup_u hnd) (fun x hx=>hG x (by rw [he,htl] at hx;exact hx)) (by simp only [Tr.size] at hN ⊢;omega)
            have hrep:Rep S p2 r (.node r e (.node r3 e3 (.node r2 e2 a c) d) u):=by have:=v2.rep;rw [he] at this;exact this
            obtain ⟨p3,y1,y2⟩:=turnRight_ok ok v2.pw hrep (by simp only [Tr.refs] at hnd ⊢;simpa using hnd) (fun x hx=>hG x (by simp [Tr.toList] at hx ⊢;exact hx)) (by simp only [Tr.size] at hN ⊢;omega)
            refine ⟨r3,p3,?_,y2.pw,?_,fun x hx=>?_,y2.cap.trans (v2.cap.trans t2.cap)⟩
            · simp only [t1,Option.bind_some,v1,y1]
            · simp only [Tr.turnR,Tr.turnL];exact y2.rep
            · have hx2:x∉(Tr.node r e (.node r3 e3 (.node r2 e2 a c) d) u).refs:=by simpa [Tr.refs] using hx
              simp only [Tr.refs,List.mem_append,List.mem_cons,not_or] at hx
              rw [y2.frame x hx2,v2.frame x (by simp;exact hx.2.1),t2.frame x (by simp only [Tr.refs,List.mem_append,List.mem_cons,not_or];exact hx.1)]
        · simp only [c2,decide_false,cond_false,if_false]
          obtain ⟨p1,t1,t2⟩:=turnRight_ok ok hP h hnd hG hN
          refine ⟨r2,p1,?_,t2.pw,by simp only [Tr.turnR];exact t2.rep,t2.frame,t2.cap⟩
          simp only [t1,Option.bind_some]
    · simp only [c3,decide_false,cond_false,if_false]
      exact ⟨r,p,rfl,hP,h,fun x _=>rfl,rfl⟩
theorem link_ok (ok : OpsOk O k N G S lt) : ∀ (n : Nat) {p : PN E A} {L : List TRef} {B : Nat} (hP : PW p L B) {a m b : TRef} {n0 : TNode E A} {l u : Tr E}, l.size + u.size < n → Rep S p a l → look p m = some n0 → Rep S p b u → (l.refs ++ m :: u.refs).Nodup →
    (∀ x∈l.toList++n0.e::u.toList,G x)→l.size+1+u.size<N→∃ r' p',Tree_link.r O k n p a m b=some (r',p')∧Left S p p' L B r' (Tr.link n l m n0.e u) (l.refs++m::u.refs)
  | 0, _, _, _, _, _, _, _, _, _, _, h, _, _, _, _, _, _ => by omega
  | n + 1, p, L, B, hP, a, m, b, n0, l, u, hn, hl, hm, hu, hnd, hG, hN => by
    have hbig:=ok.big
    have wl:=weight_ok ok hP hl (by omega)
    have wu:=weight_ok ok hP hu (by omega)
    simp only [Tree_link.r,wl,wu,Option.bind_some]
    rw [dec_gt3 (by simp only [Tr.w];omega),dec_gt3 (by simp only [Tr.w];omega),Tr.link_succ]
    by_cases c1:u.w>3*l.w
    · simp only [c1,decide_true,cond_true,if_true]
      cases u with
      | nil => simp only [Tr.w, Tr.size] at c1; omega
      | node r2 e2 c d =>
        obtain ⟨n2,q1,q2⟩:=get_ok ok hP hu
        obtain ⟨hr2,he2,hc,hd,hlk2⟩:=q2.node rfl
        subst hr2
        simp only [Tr.size] at hn hN
        have hnd1:(l.refs++m::c.refs).Nodup:=by
          simp only [Tr.refs] at hnd
          refine List.Nodup.sublist ?_ hnd
          exact List.Sublist.append_left (List.Sublist.cons_cons _ (List.sublist_append_left _ _)) _
        have hndu:(Tr.node b e2 c d).refs.Nodup:=nodup_right hnd
        have hbL:b∉l.refs++m::c.refs:=by
          simp only [List.mem_append,List.mem_cons,not_or]
          refine ⟨fun h=>nodup_lu hnd h (by simp [Tr.refs]),fun e=>nodup_u hnd (by rw [← e];simp [Tr.refs]),nodup_l hndu⟩
        have hdL : ∀ x∈d.refs,x∉l.refs++m::c.refs:=by
          intro x hx
          simp only [List.mem_append,List.mem_cons,not_or]
          exact ⟨fun h=>nodup_lu hnd h (by simp [Tr.refs,hx]),fun e=>nodup_u hnd (by rw [← e];simp [Tr.refs,hx]),fun h=>nodup_lu hndu h hx⟩
        obtain ⟨r1,p1,t1,t2⟩:=link_ok ok n hP (by omega) hl hm hc hnd1 (fun x hx=>hG x (by simp [Tr.toList] at hx ⊢;rcases hx with hx | hx | hx <;> simp [hx])) (by omega)
        have hlk1:look p1 b=some n2:=by rw [t2.frame b hbL];exact hlk2
        have hd1:Rep S p1 n2.right d:=hd.frame (fun x hx=>t2.frame x (hdL x hx))
        have hnd2:(Tr.node b e2 (Tr.link n l m n0.e c) d).refs.Nodup:=by simp only [Tr.refs,Tr.link_refs] at hnd ⊢;simpa using hnd
        have hG2 : ∀ x∈(Tr.node b e2 (Tr.link n l m n0.e c) d).toList,G x:=fun x hx=>hG x (by simp [Tr.toList,Tr.link_list] at hx ⊢;exact hx)
        have hsz:(Tr.node b e2 (Tr.link n l m n0.e c) d).size<N:=by simp only [Tr.size,Tr.link_size];omega
        obtain ⟨p2,v1,v2⟩:=lay_ok ok t2.pw hlk1 t2.rep hd1 (nodup_l hnd2) (nodup_u hnd2) (fun x hx=>hG2 x (by rw [he2] at hx;exact hx)) (by simpa [Tr.size] using hsz)
        have hrep:Rep S p2 b (.node b e2 (Tr.link n l m n0.e c) d):=by have:=v2.rep;rw [he2] at this;exact this
        obtain ⟨r',p3,y1,y2⟩:=balance_ok ok v2.pw hrep hnd2 hG2 hsz
        refine ⟨r',p3,?_,y2.pw,y2.rep,fun x hx=>?_,y2.cap.trans (v2.cap.trans t2.cap)⟩
        · simp only [q1,Option.bind_some,t1,v1,y1]
        · have hx1:x∉(Tr.node b e2 (Tr.link n l m n0.e c) d).refs:=by simp only [Tr.refs,Tr.link_refs] at hx ⊢;simpa using hx
          simp only [Tr.refs,List.mem_append,List.mem_cons,not_or] at hx
          rw [y2.frame x hx1,v2.frame x (by simp;exact hx.2.2.2.1),t2.frame x (by simp only [List.mem_append,List.mem_cons,not_or];exact ⟨hx.1,hx.2.1,hx.2.2.1⟩)]
    · simp only [c1,decide_false,cond_false,if_false]
      by_cases c3:l.w>3*u.w
      · simp only [c3,decide_true,cond_true,if_true]
        cases l with
        | nil => simp only [Tr.w, Tr.size] at c3; omega
        | node r2 e2 c d =>
          obtain ⟨n2,q1,q2⟩:=get_ok ok hP hl
          obtain ⟨hr2,he2,hc,hd,hlk2⟩:=q2.node rfl
          subst hr2
          simp only [Tr.size] at hn hN
          have hnd':(c.refs++a::(d.refs++m::u.refs)).Nodup:=by simp only [Tr.refs] at hnd;simpa using hnd
          have hnd1:(d.refs++m::u.refs).Nodup:=nodup_right hnd'
          have haL:a∉d.refs++m::u.refs:=nodup_u hnd'
          have hcL : ∀ x∈c.refs,x∉d.refs++m::u.refs:=fun x hx h=>nodup_lu hnd' hx h
          obtain ⟨r1,p1,t1,t2⟩:=link_ok ok n hP (by omega) hd hm hu hnd1 (fun x hx=>hG x (by simp [Tr.toList] at hx ⊢;rcases hx with hx | hx | hx <;> simp [hx])) (by omega)
          have hlk1:look p1 a=some n2:=by rw [t2.frame a haL];exact hlk2
          have hc1:Rep S p1 n2.left c:=hc.frame (fun x hx=>t2.frame x (hcL x hx))
          have hnd2:(Tr.node a e2 c (Tr.link n d m n0.e u)).refs.Nodup:=by simp only [Tr.refs,Tr.link_refs];exact hnd'
          have hG2 : ∀ x∈(Tr.node a e2 c (Tr.link n d m n0.e u)).toList,G x:=fun x hx=>hG x (by simp [Tr.toList,Tr.link_list] at hx ⊢;exact hx)
          have hsz:(Tr.node a e2 c (Tr.link n d m n0.e u)).size<N:=by simp only [Tr.size,Tr.link_size];omega
          obtain ⟨p2,v1,v2⟩:=lay_ok ok t2.pw hlk1 hc1 t2.rep (nodup_l hnd2) (nodup_u hnd2) (fun x hx=>hG2 x (by rw [he2] at hx;exact hx)) (by simpa [Tr.size] using hsz)
          have hrep:Rep S p2 a (.node a e2 c (Tr.link n d m n0.e u)):=by have:=v2.rep;rw [he2] at this;exact this
          obtain ⟨r',p3,y1,y2⟩:=balance_ok ok v2.pw hrep hnd2 hG2 hsz
          refine ⟨r',p3,?_,y2.pw,y2.rep,fun x hx=>?_,y2.cap.trans (v2.cap.trans t2.cap)⟩
          · simp only [q1,Option.bind_some,t1,v1,y1]
          · have hx1:x∉(Tr.node a e2 c (Tr.link n d m n0.e u)).refs:=by simp only [Tr.refs,Tr.link_refs] at hx ⊢;simpa using hx
            simp only [Tr.refs,List.mem_append,List.mem_cons,not_or] at hx
            rw [y2.frame x hx1,v2.frame x (by simp;exact hx.1.2.1),t2.frame x (by simp only [List.mem_append,List.mem_cons,not_or];exact ⟨hx.1.2.2,hx.2⟩)]
      · simp only [c3,decide_false,cond_false,if_false]
        obtain ⟨p1,t1,t2⟩:=lay_ok ok hP hm hl hu (nodup_l hnd) (nodup_u hnd) hG hN
        refine ⟨m,p1,by simp only [t1,Option.bind_some],t2.pw,t2.rep,fun x hx=>t2.frame x ?_,t2.cap⟩
        simp only [List.mem_append,List.mem_cons,not_or] at hx
        simp;exact hx.2.1
theorem linkf_ok (ok : OpsOk O k N G S lt) (hk : N ≤ k) {p : PN E A} {L : List TRef} {B : Nat} (hP : PW p L B) {a m b : TRef} {n0 : TNode E A} {l u : Tr E} (hl : Rep S p a l) (hm : look p m = some n0) (hu : Rep S p b u) (hnd : (l.refs ++ m :: u.refs).Nodup)
    (hG : ∀ x∈l.toList++n0.e::u.toList,G x) (hN:l.size+1+u.size<N) : ∃ r' p',Tree_link.f O k p a m b=some (r',p')∧Left S p p' L B r' (Tr.link k l m n0.e u) (l.refs++m::u.refs) :=
  link_ok ok k hP (by omega) hl hm hu hnd hG hN
end
end Go.Proofs.YtgjbibabegabnaaGreat
namespace Go.Proofs.YtgjbibabegabnaaGreat
open Go Go.Proofs.YtgjbibabegabnaaGreat.Sx
structure Cut {E:Type} (lt:E→E→Prop) (e:E) (l a m b:List E):Prop where
  eq:l=a++(m++b)
  la : ∀ x∈a,lt x e
  lb : ∀ x∈b,lt e x
  lm:m=[]∨∃ y,m=[y]∧¬ lt e y∧¬ lt y e
abbrev InOrd {E:Type} (lt:E→E→Prop) (l:List E):Prop:=l.Pairwise lt
section
variable {E A:Type} {O:Ops E A} {k N:Nat} {G:E→Prop} {S:A→List E→Prop} {lt:E→E→Prop}
theorem Cut.nil (e:E):Cut lt e [] [] [] []:=⟨rfl,by simp,by simp,.inl rfl⟩
theorem Cut.left (ok:OpsOk O k N G S lt) {e n:E} {l a m b u:List E} (h:Cut lt e l a m b) (hs:InOrd lt (l++n::u)) (hl:lt e n):Cut lt e (l++n::u) a m (b++n::u):=by
  refine ⟨by rw [h.eq];simp,h.la,fun x hx=>?_,h.lm⟩
  rcases List.mem_append.1 hx with hx | hx
  · exact h.lb x hx
  · rcases List.mem_cons.1 hx with rfl | hx
    · exact hl
    · exact ok.trans hl ((List.pairwise_cons.1 (List.pairwise_append.1 hs).2.1).1 x hx)
theorem Cut.right (ok:OpsOk O k N G S lt) {e n:E} {l a m b u:List E} (h:Cut lt e u a m b) (hs:InOrd lt (l++n::u)) (hl:lt n e):Cut lt e (l++n::u) (l++n::a) m b:=by
  refine ⟨by rw [h.eq];simp,fun x hx=>?_,h.lb,h.lm⟩
  rcases List.mem_append.1 hx with hx | hx
  · exact ok.trans ((List.pairwise_append.1 hs).2.2 x hx n List.mem_cons_self) hl
  · rcases List.mem_cons.1 hx with rfl | hx
    · exact hl
    · exact h.la x hx
theorem Cut.mid (ok:OpsOk O k N G S lt) {e n:E} {l u:List E} (hs:InOrd lt (l++n::u)) (h1 : ¬ lt e n) (h2 : ¬ lt n e):Cut lt e (l++n::u) l [n] u:=by
  refine ⟨by simp,fun x hx=>?_,fun x hx=>?_,.inr ⟨n,rfl,h1,h2⟩⟩
  · exact ok.right h2 h1 ((List.pairwise_append.1 hs).2.2 x hx n List.mem_cons_self)
  · exact ok.left h2 h1 ((List.pairwise_cons.1 (List.pairwise_append.1 hs).2.1).1 x hx)
theorem sorted_l {l u:List E} {n:E} (hs:InOrd lt (l++n::u)):InOrd lt l:=(List.pairwise_append.1 hs).1
theorem sorted_u {l u:List E} {n:E} (hs:InOrd lt (l++n::u)):InOrd lt u:=(List.pairwise_cons.1 (List.pairwise_append.1 hs).2.1).2
theorem Cut.put (ok:OpsOk O k N G S lt) {e:E} {l a m b:List E} (h:Cut lt e l a m b) (hs:InOrd lt l):InOrd lt (a++e::b):=by
  rw [h.eq] at hs
  obtain ⟨h1,h2,h3⟩:=List.pairwise_append.1 hs
  refine List.pairwise_append.2 ⟨h1,List.pairwise_cons.2 ⟨h.lb,(List.pairwise_append.1 h2).2.1⟩,fun x hx y hy=>?_⟩
  rcases List.mem_cons.1 hy with rfl | hy
  · exact h.la x hx
  · exact h3 x hx y (List.mem_append_right _ hy)
theorem Cut.drop {e:E} {l a m b:List E} (h:Cut lt e l a m b) (hs:InOrd lt l):InOrd lt (a++b):=by
  rw [h.eq] at hs
  exact hs.sublist (List.Sublist.append_left (List.sublist_append_right _ _) _)
structure PutL (S:A→List E→Prop) (p p':PN E A) (L:List TRef) (B:Nat) (t t':Tr E) (r':TRef) (F:List TRef):Prop where
  pw:PW p' (F++L) (B+1)
  rep:Rep S p' r' t'
  refs:t'.refs.Perm (F++t.refs)
  frame : ∀ x,x∉F→x∉t.refs→look p' x=look p x
  cap:p'.cap=p.cap
theorem put_ok (ok : OpsOk O k N G S lt) (hk : N ≤ k) {p : PN E A} {L : List TRef} {B : Nat} (hP : PW p L B) (hB : B + 1 < 4294967295) (e : E) (hGe : G e) : ∀ (n : Nat) {r : TRef} {t : Tr E}, t.size < n → Rep S p r t → t.refs.Nodup → InOrd lt t.toList → (∀ x ∈ t.toList, G x) → t.size + 1 < N →
    ∃ a m b,Cut lt e t.toList a m b ∧
      ((m=[]∧(L.length:Int)=p.cap∧∃ rr,Tree_put.r O k n p r e=some (rr,false,p)) ∨
       (∃ r' p' t' F,(m=[]→(L.length:Int)≠p.cap)∧F.length+m.length=1∧Tree_put.r O k n p r e=some (r',true,p')∧t'.toList=a++e::b∧PutL S p p' L B t t' r' F))
  | 0, _, _, h, _, _, _, _, _ => by omega
  | n + 1, r, .nil, hn, hr, hnd, hs, hG, hN => by
    refine ⟨[],[],[],Cut.nil e,?_⟩
    have e0:(r.gen == 0)=true:=by simpa using hr.nil_iff.2 rfl
    obtain ⟨s,s1,s2⟩:=ok.sum e hGe
    simp only [Tree_put.r,e0,cond_true,s1,Option.bind_some]
    by_cases hc:(L.length:Int)=p.cap
    · exact .inl ⟨trivial,hc,⟨⟨0,0⟩,by rw [hP.put_full hc];rfl⟩⟩
    · right
      obtain ⟨r1,p1,q1,q2,q3,q4,q5,q6,q7⟩:=hP.put (z:=zNode O) hc hB (TNode.mk e zTRef zTRef 1 s)
      refine ⟨r1,p1,.node r1 e .nil .nil,[r1],fun _=>hc,rfl,by rw [q1];rfl,rfl,q4,⟨rfl,q3,_,q5,rfl,rfl,by simpa [Tr.toList] using s2,rfl,rfl⟩,by simp [Tr.refs],fun x hx _=>q6 x (by simpa using hx),q7⟩
  | n + 1, r, .node r0 e0 l u, hn, hr, hnd, hs, hG, hN => by
    obtain ⟨n1,g1,g2⟩:=get_ok ok hP hr
    obtain ⟨rfl,he,hl,hu,hlk⟩:=g2.node rfl
    have hg:(r.gen == 0)=false:=by
      have:=hP.gen_ne (hP.mem hlk);simpa using this
    obtain ⟨c,c1,c2,c3⟩:=ok.cmp e n1.e
    have hsz:(Tr.node r e0 l u).size=l.size+1+u.size:=rfl
    have hln:(Tr.node r e0 l u).toList=l.toList++e0::u.toList:=rfl
    have hrL:r∈L:=hP.mem hlk
    simp only [Tree_put.r,hg,cond_false,g1,Option.bind_some,c1]
    rw [he] at c2 c3
    rw [hln] at hs hG ⊢
    by_cases h1:c<0
    · have hlt:=c2.1 h1
      simp only [h1,decide_true,cond_true]
      obtain ⟨a,m,b,hcut,hres⟩:=put_ok ok hk hP hB e hGe n (by omega) hl (nodup_left hnd) (sorted_l hs) (fun x hx=>hG x (List.mem_append_left _ hx)) (by omega)
      refine ⟨a,m,b++e0::u.toList,hcut.left ok hs hlt,?_⟩
      rcases hres with ⟨h2,h3,rr,h4⟩ | ⟨r',p',t',F,h2,h3,h4,h5,h6⟩
      · exact .inl ⟨h2,h3,r,by simp only [h4,Option.bind_some];rfl⟩
      · right
        have hF : ∀ x∈F,x∉L:=fun x hx hL=>(List.nodup_append.1 h6.pw.ld).2.2 x hx x hL rfl
        have hrF:r∉F:=fun h=>hF r h hrL
        have hlk1:look p' r=some n1:=by rw [h6.frame r hrF (nodup_l hnd)];exact hlk
        have hu1:Rep S p' n1.right u:=hu.frame (fun x hx=>h6.frame x (fun h=>hF x h (hu.sub hP x hx)) (fun h=>nodup_lu hnd h hx))
        have hperm:(t'.refs++r::u.refs).Perm (F++(Tr.node r e0 l u).refs):=by
          have:=h6.refs.append_right (r::u.refs)
          simpa [Tr.refs] using this
        have hFn:(F++(Tr.node r e0 l u).refs).Nodup:=List.nodup_append.2 ⟨(List.nodup_append.1 h6.pw.ld).1,hnd,fun x hx y hy hxy=>hF x hx (hxy▸hr.sub hP y hy)⟩
        have hts:t'.size≤l.size+1:=by
          have:=congrArg List.length h5
          have h7:=congrArg List.length hcut.eq
          simp only [Tr.len_toList,List.length_append,List.length_cons] at this h7;omega
        obtain ⟨r2,p2,v1,v2⟩:=linkf_ok ok hk h6.pw h6.rep hlk1 hu1 (hperm.nodup_iff.2 hFn) (fun x hx=>by
          rw [h5,he] at hx
          simp only [List.mem_append,List.mem_cons] at hx
          have h8 : ∀ y,y∈a∨y∈b→y∈l.toList:=fun y hy=>by rw [hcut.eq];rcases hy with hy | hy <;> simp [hy]
          rcases hx with (hx | rfl | hx) | rfl | hx
          · exact hG x (List.mem_append_left _ (h8 x (.inl hx)))
          · exact hGe
          · exact hG x (List.mem_append_left _ (h8 x (.inr hx)))
          · exact hG x (by simp)
          · exact hG x (by simp [hx])) (by omega)
        refine ⟨r2,p2,Tr.link k t' r n1.e u,F,h2,h3,?_,?_,v2.pw,v2.rep,?_,fun x hx1 hx2=>?_,v2.cap.trans h6.cap⟩
        · simp only [h4,Option.bind_some,v1];rfl
        · rw [Tr.link_list,h5,he];simp
        · rw [Tr.link_refs];exact hperm
        · have hx3:x∉l.refs:=fun h=>hx2 (by simp [Tr.refs,h])
          rw [v2.frame x (fun h=>by
            rcases List.mem_append.1 (hperm.mem_iff.1 h) with h | h
            · exact hx1 h
            · exact hx2 h),h6.frame x hx1 hx3]
    · simp only [h1,decide_false,cond_false]
      by_cases h1':c>0
      · have hlt:=c3.1 h1'
        simp only [h1',decide_true,cond_true]
        obtain ⟨a,m,b,hcut,hres⟩:=put_ok ok hk hP hB e hGe n (by omega) hu (nodup_right hnd) (sorted_u hs) (fun x hx=>hG x (by simp [hx])) (by omega)
        refine ⟨l.toList++e0::a,m,b,hcut.right ok hs hlt,?_⟩
        rcases hres with ⟨h2,h3,rr,h4⟩ | ⟨r',p',t',F,h2,h3,h4,h5,h6⟩
        · exact .inl ⟨h2,h3,r,by simp only [h4,Option.bind_some];rfl⟩
        · right
          have hF : ∀ x∈F,x∉L:=fun x hx hL=>(List.nodup_append.1 h6.pw.ld).2.2 x hx x hL rfl
          have hrF:r∉F:=fun h=>hF r h hrL
          have hlk1:look p' r=some n1:=by rw [h6.frame r hrF (nodup_u hnd)];exact hlk
          have hl1:Rep S p' n1.left l:=hl.frame (fun x hx=>h6.frame x (fun h=>hF x h (hl.sub hP x hx)) (fun h=>nodup_lu hnd hx h))
          have hperm:(l.refs++r::t'.refs).Perm (F++(Tr.node r e0 l u).refs):=by
            have h7:(l.refs++r::t'.refs).Perm (l.refs++r::(F++u.refs)):=List.Perm.append_left _ (List.Perm.cons _ h6.refs)
            refine h7.trans ?_
            have:(F++(Tr.node r e0 l u).refs)=F++((l.refs++[r])++u.refs):=by simp [Tr.refs]
            rw [this,show l.refs++r::(F++u.refs)=(l.refs++[r])++(F++u.refs) by simp,← List.append_assoc,← List.append_assoc]
            exact List.Perm.append_right _ List.perm_append_comm
          have hFn:(F++(Tr.node r e0 l u).refs).Nodup:=List.nodup_append.2 ⟨(List.nodup_append.1 h6.pw.ld).1,hnd,fun x hx y hy hxy=>hF x hx (hxy▸hr.sub hP y hy)⟩
          have hts:t'.size≤u.size+1:=by
            have:=congrArg List.length h5
            have h7:=congrArg List.length hcut.eq
            simp only [Tr.len_toList,List.length_append,List.length_cons] at this h7;omega
          obtain ⟨r2,p2,v1,v2⟩:=linkf_ok ok hk h6.pw hl1 hlk1 h6.rep (hperm.nodup_iff.2 hFn) (fun x hx=>by
            rw [h5,he] at hx
            simp only [List.mem_append,List.mem_cons] at hx
            have h8 : ∀ y,y∈a∨y∈b→y∈u.toList:=fun y hy=>by rw [hcut.eq];rcases hy with hy | hy <;> simp [hy]
            rcases hx with hx | rfl | hx | rfl | hx
            · exact hG x (by simp [hx])
            · exact hG x (by simp)
            · exact hG x (by simp [h8 x (.inl hx)])
            · exact hGe
            · exact hG x (by simp [h8 x (.inr hx)])) (by omega)
          refine ⟨r2,p2,Tr.link k l r n1.e t',F,h2,h3,?_,?_,v2.pw,v2.rep,?_,fun x hx1 hx2=>?_,v2.cap.trans h6.cap⟩
          · simp only [h4,Option.bind_some,v1];rfl
          · rw [Tr.link_list,h5,he];simp
          · rw [Tr.link_refs];exact hperm
          · have hx3:x∉u.refs:=fun h=>hx2 (by simp [Tr.refs,h])
            rw [v2.frame x (fun h=>by
              rcases List.mem_append.1 (hperm.mem_iff.1 h) with h | h
              · exact hx1 h
              · exact hx2 h),h6.frame x hx1 hx3]
      · simp only [h1',decide_false,cond_false]
        have n1' : ¬ lt e e0:=fun h=>h1 (c2.2 h)
        have n2' : ¬ lt e0 e:=fun h=>h1' (c3.2 h)
        refine ⟨l.toList,[e0],u.toList,Cut.mid ok hs n1' n2',.inr ?_⟩
        obtain ⟨p1,q1,q2,q3,q4,q5⟩:=hP.set hlk (TNode.mk e n1.left n1.right n1.size n1.sum)
        have hl1:Rep S p1 n1.left l:=hl.frame (fun x hx=>q4 x (fun h=>nodup_l hnd (h▸hx)))
        have hu1:Rep S p1 n1.right u:=hu.frame (fun x hx=>q4 x (fun h=>nodup_u hnd (h▸hx)))
        obtain ⟨p2,v1,v2⟩:=lay_ok ok q2 q3 hl1 hu1 (nodup_l hnd) (nodup_u hnd) (fun x hx=>by
          simp only [List.mem_append,List.mem_cons] at hx
          rcases hx with hx | rfl | hx
          · exact hG x (by simp [hx])
          · exact hGe
          · exact hG x (by simp [hx])) (by omega)
        refine ⟨r,p2,.node r e l u,[],by simp,rfl,?_,rfl,v2.pw.mono (Nat.le_succ _) hB,v2.rep,by simp [Tr.refs],fun x hx1 hx2=>?_,v2.cap.trans q5⟩
        · simp only [q1,Option.bind_some,v1]
        · have hxr:x≠r:=fun h=>hx2 (by simp [Tr.refs,h])
          rw [v2.frame x (by simpa using hxr),q4 x hxr]
end
end Go.Proofs.YtgjbibabegabnaaGreat
namespace Go.Proofs.YtgjbibabegabnaaGreat
open Go Go.Proofs.YtgjbibabegabnaaGreat.Sx
section
variable {E A:Type} {O:Ops E A} {k N:Nat} {G:E→Prop} {S:A→List E→Prop} {lt:E→E→Prop}
theorem PW.ne0 {p:PN E A} {L:List TRef} {B:Nat} (hP:PW p L B) {r:TRef} {n:TNode E A} (h:look p r=some n):(r.gen == 0)=false:=by
  have:=hP.gen_ne (hP.mem h);simpa using this
theorem find_ok (ok : OpsOk O k N G S lt) {p : PN E A} {L : List TRef} {B : Nat} (hP : PW p L B) (e : E) : ∀ (n : Nat) {r : TRef} {t : Tr E}, t.size < n → Rep S p r t → InOrd lt t.toList →
    ∃ a m b,Cut lt e t.toList a m b∧Tree_Find.l0 O k p e n r=some (match m with | y::_=>Sum.inl (y,true) | []=>Sum.inr ())
  | 0, _, _, h, _, _ => by omega
  | n + 1, r, .nil, hn, hr, hs => by
    refine ⟨[],[],[],Cut.nil e,?_⟩
    have e0:(r.gen != 0)=false:=by simpa using hr.nil_iff.2 rfl
    simp only [Tree_Find.l0,e0,cond_false]
  | n + 1, r, .node r0 e0 l u, hn, hr, hs => by
    obtain ⟨n1,g1,g2⟩:=get_ok ok hP hr
    obtain ⟨rfl,he,hl,hu,hlk⟩:=g2.node rfl
    have hg:(r.gen != 0)=true:=by have:=hP.ne0 hlk;rw [bne,this];rfl
    obtain ⟨c,c1,c2,c3⟩:=ok.cmp e n1.e
    have hsz:(Tr.node r e0 l u).size=l.size+1+u.size:=rfl
    have hln:(Tr.node r e0 l u).toList=l.toList++e0::u.toList:=rfl
    simp only [Tree_Find.l0,hg,cond_true,g1,Option.bind_some,c1]
    rw [he] at c2 c3
    rw [hln] at hs ⊢
    by_cases h1:c<0
    · have h0:(c == 0)=false:=by simp;omega
      simp only [h1,h0,decide_true,cond_true,cond_false]
      obtain ⟨a,m,b,hcut,hres⟩:=find_ok ok hP e n (by omega) hl (sorted_l hs)
      exact ⟨a,m,b++e0::u.toList,hcut.left ok hs (c2.1 h1),hres⟩
    · by_cases h2:c>0
      · have h0:(c == 0)=false:=by simp;omega
        simp only [h1,h0,decide_false,cond_false]
        obtain ⟨a,m,b,hcut,hres⟩:=find_ok ok hP e n (by omega) hu (sorted_u hs)
        exact ⟨l.toList++e0::a,m,b,hcut.right ok hs (c3.1 h2),hres⟩
      · have h0:(c == 0)=true:=by simp;omega
        simp only [h0,cond_true]
        exact ⟨l.toList,[e0],u.toList,Cut.mid ok hs (fun h=>h1 (c2.2 h)) (fun h=>h2 (c3.2 h)),by rw [he]⟩
theorem rank_ok (ok : OpsOk O k N G S lt) {p : PN E A} {L : List TRef} {B : Nat} (hP : PW p L B) (e : E) : ∀ (n : Nat) {r : TRef} {t : Tr E} (s : Nat), t.size < n → Rep S p r t → InOrd lt t.toList → s + t.size < 4294967296 →
    ∃ a m b,Cut lt e t.toList a m b∧Tree_Rank.l0 O k p e n ((s:Int),r)=some (((s+a.length:Nat)):Int)
  | 0, _, _, _, h, _, _, _ => by omega
  | n + 1, r, .nil, s, hn, hr, hs, hb => by
    refine ⟨[],[],[],Cut.nil e,?_⟩
    have e0:(r.gen != 0)=false:=by simpa using hr.nil_iff.2 rfl
    simp only [Tree_Rank.l0,e0,cond_false,List.length_nil,Nat.add_zero]
  | n + 1, r, .node r0 e0 l u, s, hn, hr, hs, hb => by
    obtain ⟨n1,g1,g2⟩:=get_ok ok hP hr
    obtain ⟨rfl,he,hl,hu,hlk⟩:=g2.node rfl
    have hg:(r.gen != 0)=true:=by have:=hP.ne0 hlk;rw [bne,this];rfl
    obtain ⟨c,c1,c2,c3⟩:=ok.cmp e n1.e
    have hsz:(Tr.node r e0 l u).size=l.size+1+u.size:=rfl
    have hln:(Tr.node r e0 l u).toList=l.toList++e0::u.toList:=rfl
    have hw:=weight_ok ok hP hl (by omega)
    simp only [Tree_Rank.l0,hg,cond_true,g1,Option.bind_some,c1]
    rw [he] at c2 c3
    rw [hln] at hs ⊢
    by_cases h2:c>0
    · have h0:decide (c≤0)=false:=by simp;omega
      simp only [h0,cond_false,hw,Option.bind_some]
      rw [w64_id (by simp only [Tr.w];omega) (by simp only [Tr.w];omega),show (s:Int)+((l.w:Nat):Int)=((s+l.w:Nat):Int) by omega]
      obtain ⟨a,m,b,hcut,hres⟩:=rank_ok ok hP e n (s+l.w) (by omega) hu (sorted_u hs) (by simp only [Tr.w];omega)
      refine ⟨l.toList++e0::a,m,b,hcut.right ok hs (c3.1 h2),?_⟩
      rw [hres]
      simp only [List.length_append,List.length_cons,Tr.len_toList,Tr.w]
      congr 2;omega
    · have h0:decide (c≤0)=true:=by simp;omega
      simp only [h0,cond_true]
      by_cases h1:c<0
      · obtain ⟨a,m,b,hcut,hres⟩:=rank_ok ok hP e n s (by omega) hl (sorted_l hs) (by omega)
        exact ⟨a,m,b++e0::u.toList,hcut.left ok hs (c2.1 h1),hres⟩
      · have m1 : ¬ lt e e0:=fun h=>h1 (c2.2 h)
        have m2 : ¬ lt e0 e:=fun h=>h2 (c3.2 h)
        obtain ⟨a,m,b,hcut,hres⟩:=rank_ok ok hP e n s (by omega) hl (sorted_l hs) (by omega)
        refine ⟨l.toList,[e0],u.toList,Cut.mid ok hs m1 m2,?_⟩
        have hmid:=Cut.mid ok hs m1 m2
        have hmb:m++b=[]:=by
          cases hmb:m++b with
          | nil => rfl
          | cons x q =>
            have hx:x∈l.toList:=by rw [hcut.eq,hmb];simp
            have h3:=hmid.la x hx
            cases m with
            | nil =>
              have hbx:b=x::q:=by simpa using hmb
              exact absurd (ok.trans h3 (hcut.lb x (by rw [hbx];simp))) (ok.irrefl x)
            | cons y ys =>
              rcases hcut.lm with h | ⟨y',h,h4,h5⟩
              · cases h
              · cases h
                have:y=x:=by simpa using (List.cons.inj hmb).1
                exact absurd h3 (this▸h5)
        rw [hres,hcut.eq,hmb,List.append_nil]
def seg {α:Type} (l:List α) (i j:Int):List α:=(l.take j.toNat).drop i.toNat
theorem seg_nil {α:Type} {l:List α} {i j:Int} (h:i≥j∨i≥l.length∨j≤0∨l.length=0):seg l i j=[]:=by
  unfold seg
  apply List.drop_eq_nil_of_le
  rw [List.length_take]
  omega
theorem seg_all {α:Type} {l:List α} {i j:Int} (h1:i≤0) (h2:j≥l.length):seg l i j=l:=by
  unfold seg
  rw [List.take_of_length_le (by omega),show i.toNat=0 by omega,List.drop_zero]
theorem seg_node {α:Type} (l u:List α) (e:α) (i j:Int):seg (l++e::u) i j=seg l i j++((if i≤l.length∧j>l.length then [e] else [])++seg u (i - l.length - 1) (j - l.length - 1)):=by
  by_cases hj:j>l.length
  · have h1 : (l ++ e :: u).take j.toNat = l ++ e :: u.take (j - l.length - 1).toNat := by
      rw [List.take_append,List.take_of_length_le (by omega),show j.toNat - l.length=(j - l.length - 1).toNat+1 by omega,List.take_succ_cons]
    have h2:seg l i j=l.drop i.toNat:=by unfold seg;rw [List.take_of_length_le (by omega)]
    unfold seg at h2 ⊢
    rw [h1,h2,List.drop_append]
    congr 1
    by_cases hi:i≤l.length
    · rw [if_pos ⟨hi,hj⟩,show i.toNat - l.length=0 by omega,show (i - (l.length:Int) - 1).toNat=0 by omega];rfl
    · rw [if_neg (fun h=>hi h.1),show i.toNat - l.length=(i - (l.length:Int) - 1).toNat+1 by omega];rfl
  · rw [if_neg (fun h=>hj h.2),seg_nil (l:=u) (.inr (.inr (.inl (by omega))))]
    unfold seg
    rw [List.take_append_of_le_length (by omega)];simp
theorem seg_sub {α:Type} (l:List α) (i j:Int):(seg l i j).Sublist l:=(List.drop_sublist _ _).trans (List.take_sublist _ _)
theorem between_ok (ok : OpsOk O k N G S lt) {p : PN E A} {L : List TRef} {B : Nat} (hP : PW p L B) : ∀ (n : Nat) {r : TRef} {t : Tr E} (i j : Int), t.size < n → Rep S p r t → (∀ x ∈ t.toList, G x) → t.size < N →
    -4611686018427387904≤i - t.size→-4611686018427387904≤j - t.size→i≤4611686018427387904→j≤4611686018427387904→∃ c,Tree_between.r O k n p r i j=some c∧S c (seg t.toList i j)
  | 0, _, _, _, _, h, _, _, _, _, _, _, _ => by omega
  | n + 1, r, t, i, j, hn, hr, hG, hN, b1, b2, b3, b4 => by
    have hbig:=ok.big
    obtain ⟨n1,g1,g2⟩:=get_ok ok hP hr
    have hll:=Tr.len_toList t
    simp only [Tree_between.r,g1,Option.bind_some,g2.size]
    by_cases h1:i≥j
    · simp only [h1,decide_true,cond_true,Option.bind_some,Sum.elim_inl]
      exact ⟨_,rfl,by rw [seg_nil (.inl h1)];exact ok.zero⟩
    · simp only [h1,decide_false,cond_false]
      by_cases h2:i≥(t.size:Int)
      · simp only [h2,decide_true,cond_true,Option.bind_some,Sum.elim_inl]
        exact ⟨_,rfl,by rw [seg_nil (.inr (.inl (by omega)))];exact ok.zero⟩
      · simp only [h2,decide_false,cond_false]
        by_cases h3:j≤0
        · simp only [h3,decide_true,cond_true,Option.bind_some,Sum.elim_inl]
          exact ⟨_,rfl,by rw [seg_nil (.inr (.inr (.inl h3)))];exact ok.zero⟩
        · simp only [h3,decide_false,cond_false]
          cases t with
          | nil => exact ⟨_, rfl, by rw [seg_nil (.inr (.inr (.inr rfl)))]; exact ok.zero⟩
          | node r0 e0 l u =>
            have hsz:(Tr.node r0 e0 l u).size=l.size+1+u.size:=rfl
            have h4:((((Tr.node r0 e0 l u).size:Nat):Int) == 0)=false:=by simp;omega
            simp only [h4,cond_false,Option.bind_some,Sum.elim_inr]
            by_cases h5:i≤0∧j≥((Tr.node r0 e0 l u).size:Int)
            · simp only [h5.1,h5.2,decide_true,cond_true,Option.bind_some,Sum.elim_inl]
              exact ⟨_,rfl,by rw [seg_all h5.1 (by rw [hll];exact h5.2)];exact g2.sum⟩
            · have h6 : (bif decide (i ≤ 0) then (bif decide (j ≥ ((Tr.node r0 e0 l u).size : Int)) then some (Sum.inl n1.sum) else some (Sum.inr ())) else some (Sum.inr () : Sum A Unit)) = some (Sum.inr ()) := by
                by_cases h7:i≤0
                · have h8 : ¬ j≥((Tr.node r0 e0 l u).size:Int):=fun h=>h5 ⟨h7,h⟩
                  simp only [h7,h8,decide_true,decide_false,cond_true,cond_false]
                · simp only [h7,decide_false,cond_false]
              rw [h6]
              obtain ⟨rfl,he,hl,hu,hlk⟩:=g2.node rfl
              obtain ⟨n2,g3,g4⟩:=get_ok ok hP hl
              have hln:(Tr.node r e0 l u).toList=l.toList++e0::u.toList:=rfl
              rw [hln] at hG
              rw [hsz] at hn hN b1 b2 h2
              obtain ⟨cl,d1,d2⟩:=between_ok ok hP n i j (by omega) hl (fun x hx=>hG x (List.mem_append_left _ hx)) (by omega) (by omega) (by omega) (by omega) (by omega)
              obtain ⟨cu,f1,f2⟩:=between_ok ok hP n (i - (l.size:Int) - 1) (j - (l.size:Int) - 1) (by omega) hu (fun x hx=>hG x (by simp [hx])) (by omega) (by omega) (by omega) (by omega) (by omega)
              have w1:w64 (w64 (i - (l.size:Int)) - 1)=i - (l.size:Int) - 1:=by
                rw [w64_id (x:=i - (l.size:Int)) (by omega) (by omega),w64_id (by omega) (by omega)]
              have w2:w64 (w64 (j - (l.size:Int)) - 1)=j - (l.size:Int) - 1:=by
                rw [w64_id (x:=j - (l.size:Int)) (by omega) (by omega),w64_id (by omega) (by omega)]
              simp only [Option.bind_some,Sum.elim_inr,g3,d1,g4.size,w1,w2,f1]
              have hsl:=(seg_sub l.toList i j)
              have hsu:=(seg_sub u.toList (i - (l.size:Int) - 1) (j - (l.size:Int) - 1))
              have hl1:=hsl.length_le
              have hl2:=hsu.length_le
              rw [Tr.len_toList] at hl1 hl2
              rw [hln,seg_node,Tr.len_toList]
              have hGl : ∀ x∈seg l.toList i j,G x:=fun x hx=>hG x (List.mem_append_left _ (hsl.subset hx))
              have hGu : ∀ x∈seg u.toList (i - (l.size:Int) - 1) (j - (l.size:Int) - 1),G x:=fun x hx=>hG x (by simp [hsu.subset hx])
              by_cases h7:i≤(l.size:Int)∧j>(l.size:Int)
              · rw [if_pos h7]
                obtain ⟨s,s1,s2⟩:=ok.sum n1.e (hG _ (by rw [he];simp))
                rw [he] at s2
                obtain ⟨x,x1,x2⟩:=ok.plus d2 s2 (fun y hy=>by
                  rcases List.mem_append.1 hy with hy | hy
                  · exact hGl y hy
                  · simp at hy;subst hy;exact hG y (by simp)) (by simp;omega)
                obtain ⟨z,z1,z2⟩:=ok.plus x2 f2 (fun y hy=>by
                  simp only [List.mem_append,List.mem_singleton] at hy
                  rcases hy with (hy | rfl) | hy
                  · exact hGl y hy
                  · exact hG y (by simp)
                  · exact hGu y hy) (by simp;omega)
                refine ⟨z,?_,by simpa using z2⟩
                simp only [h7.1,h7.2,decide_true,cond_true,s1,Option.bind_some,x1,z1]
              · rw [if_neg h7,List.nil_append]
                obtain ⟨z,z1,z2⟩:=ok.plus d2 f2 (fun y hy=>by
                  rcases List.mem_append.1 hy with hy | hy
                  · exact hGl y hy
                  · exact hGu y hy) (by simp;omega)
                refine ⟨z,?_,z2⟩
                by_cases h8:i≤(l.size:Int)
                · have h9 : ¬ j>(l.size:Int):=fun h=>h7 ⟨h8,h⟩
                  simp only [h8,h9,decide_true,decide_false,cond_true,cond_false,Option.bind_some,z1]
                · simp only [h8,decide_false,cond_false,Option.bind_some,z1]
structure Gr (S:A→List E→Prop) (lt:E→E→Prop) (G:E→Prop) (p:PN E A) (r:TRef) (l:List E) (c:Int) (B:Nat):Prop where
  ex : ∃ t,PW p t.refs B∧Rep S p r t∧t.toList=l
  sorted:InOrd lt l
  good : ∀ x∈l,G x
  cap:p.cap=c
theorem Gr.new (c:Int) (B:Nat) (hB:B<4294967295):Gr S lt G (⟨[],[],c,0,0⟩:PN E A) zTRef [] c B :=
  ⟨⟨.nil,PW.new c B hB,rfl,rfl⟩,List.Pairwise.nil,by simp,rfl⟩
theorem Gr.put (ok : OpsOk O k N G S lt) (hk : N ≤ k) {p : PN E A} {r : TRef} {l : List E} {c : Int} {B : Nat} (h : Gr S lt G p r l c B) (e : E) (hG : G e) (hB : B + 1 < 4294967295) (hN : l.length + 1 < N) :
    ∃ a m b,Cut lt e l a m b∧((m=[]∧(l.length:Int)=c∧Tree_Put.f O k p r e=some (false,r,p)) ∨
      (∃ r' p',(m=[]→(l.length:Int)≠c)∧Tree_Put.f O k p r e=some (true,r',p')∧Gr S lt G p' r' (a++e::b) c (B+1))):=by
  obtain ⟨t,hP,hr,rfl⟩:=h.ex
  have hlen:t.refs.length=t.toList.length:=by rw [Tr.len_refs,Tr.len_toList]
  have hll:=Tr.len_toList t
  obtain ⟨a,m,b,hcut,hres⟩:=put_ok ok hk hP hB e hG k (by omega) hr hP.ld h.sorted h.good (by omega)
  refine ⟨a,m,b,hcut,?_⟩
  unfold Tree_Put.f Tree_put.f
  rcases hres with ⟨h1,h2,rr,h3⟩ | ⟨r',p',t',F,h1,h2,h3,h4,h5⟩
  · exact .inl ⟨h1,by rw [← hlen,h2,h.cap],by rw [h3];rfl⟩
  · refine .inr ⟨r',p',fun hm=>by rw [← hlen,← h.cap];exact h1 hm,by rw [h3];rfl,⟨t',h5.pw.perm h5.refs.symm,h5.rep,h4⟩,hcut.put ok h.sorted,fun x hx=>?_,h5.cap.trans h.cap⟩
    have h8 : ∀ y,y∈a∨y∈b→y∈t.toList:=fun y hy=>by rw [hcut.eq];rcases hy with hy | hy <;> simp [hy]
    simp only [List.mem_append,List.mem_cons] at hx
    rcases hx with hx | rfl | hx
    · exact h.good x (h8 x (.inl hx))
    · exact hG
    · exact h.good x (h8 x (.inr hx))
theorem Gr.len (ok:OpsOk O k N G S lt) {p:PN E A} {r:TRef} {l:List E} {c:Int} {B:Nat} (h:Gr S lt G p r l c B):Tree_Len.f O k p r=some (l.length:Int):=by
  obtain ⟨t,hP,hr,rfl⟩:=h.ex
  obtain ⟨n,g1,g2⟩:=get_ok ok hP hr
  unfold Tree_Len.f
  rw [g1];simp only [Option.bind_some,g2.size,Tr.len_toList]
theorem Gr.find (ok : OpsOk O k N G S lt) (hk : N ≤ k) {p : PN E A} {r : TRef} {l : List E} {c : Int} {B : Nat} (h : Gr S lt G p r l c B) (e : E) (hN : l.length < N) :
    ∃ a m b,Cut lt e l a m b∧Tree_Find.f O k p r e=some (match m with | y::_=>(y,true) | []=>(O.zE,false)):=by
  obtain ⟨t,hP,hr,rfl⟩:=h.ex
  have hll:=Tr.len_toList t
  obtain ⟨a,m,b,hcut,hres⟩:=find_ok ok hP e k (by omega) hr h.sorted
  refine ⟨a,m,b,hcut,?_⟩
  unfold Tree_Find.f
  rw [hres]
  cases m <;> rfl
theorem Gr.rank (ok : OpsOk O k N G S lt) (hk : N ≤ k) {p : PN E A} {r : TRef} {l : List E} {c : Int} {B : Nat} (h : Gr S lt G p r l c B) (e : E) (hN : l.length < N) :
    ∃ a m b,Cut lt e l a m b∧Tree_Rank.f O k p r e=some (a.length:Int):=by
  obtain ⟨t,hP,hr,rfl⟩:=h.ex
  have hbig:=ok.big
  have hll:=Tr.len_toList t
  obtain ⟨a,m,b,hcut,hres⟩:=rank_ok ok hP e k 0 (by omega) hr h.sorted (by omega)
  refine ⟨a,m,b,hcut,?_⟩
  unfold Tree_Rank.f
  have:Tree_Rank.l0 O k p e k (0,r)=some ((0+a.length:Nat):Int):=hres
  rw [this,Nat.zero_add];rfl
theorem Gr.between (ok : OpsOk O k N G S lt) (hk : N ≤ k) {p : PN E A} {r : TRef} {l : List E} {c : Int} {B : Nat} (h : Gr S lt G p r l c B) (i j : Int) (hN : l.length < N) :
    ∃ s,Tree_Between.f O k p r i j=some s∧S s (seg l i j):=by
  have hlen:=h.len ok
  obtain ⟨t,hP,hr,rfl⟩:=h.ex
  have hbig:=ok.big
  have hll:=Tr.len_toList t
  unfold Tree_Between.f
  rw [hlen]
  simp only [Option.bind_some]
  have hg : ∀ x:Int,gmin (gmax x 0) (t.toList.length:Int)=min (max x 0) (t.toList.length:Int):=fun x=>by unfold gmin gmax;split <;> split <;> omega
  rw [hg,hg]
  obtain ⟨s,s1,s2⟩:=between_ok ok hP k (min (max i 0) (t.toList.length:Int)) (min (max j 0) (t.toList.length:Int)) (by omega) hr h.good (by omega) (by omega) (by omega) (by omega) (by omega)
  refine ⟨s,by unfold Tree_between.f;rw [s1];rfl,?_⟩
  have:seg t.toList (min (max i 0) (t.toList.length:Int)) (min (max j 0) (t.toList.length:Int))=seg t.toList i j:=by
    unfold seg
    have e1:t.toList.take (min (max j 0) (t.toList.length:Int)).toNat=t.toList.take j.toNat:=by
      by_cases hj:j≤t.toList.length
      · rw [show (min (max j 0) (t.toList.length:Int)).toNat=j.toNat by omega]
      · rw [List.take_of_length_le (by omega),List.take_of_length_le (by omega)]
    rw [e1]
    by_cases hi:i≤t.toList.length
    · rw [show (min (max i 0) (t.toList.length:Int)).toNat=i.toNat by omega]
    · rw [List.drop_eq_nil_of_le (by rw [List.length_take];omega),List.drop_eq_nil_of_le (by rw [List.length_take];omega)]
  rw [← this];exact s2
end
end Go.Proofs.YtgjbibabegabnaaGreat
namespace Go.Proofs.YtgjbibabegabnaaGreat
open Go Go.Proofs.YtgjbibabegabnaaGreat.Sx
section
variable {E A:Type} {O:Ops E A} {k N:Nat} {G:E→Prop} {S:A→List E→Prop} {lt:E→E→Prop}
structure PredOk (N:Nat) (G:E→Prop) (S:A→List E→Prop) (P:List E→List E→Bool) (fn:A→A→Option Bool):Prop where
  run : ∀ {a b l m},S a l→S b m→(∀ e∈l++m,G e)→(l++m).length<N→fn a b=some (P l m)
  nil : ∀ l,P l []=false
  app : ∀ l m n,P l (m++n)=(P l m || P (l++m) n)
def firstF (P:List E→List E→Bool):List E→List E→Int→Int
  | _, [], _ => -1
  | pre, e :: u, s => if s ≤ 0 ∧ P pre [e] = true then 0 else if firstF P (pre ++ [e]) u (s - 1) ≥ 0 then firstF P (pre ++ [e]) u (s - 1) + 1 else -1
def lastF (P:List E→List E→Bool):List E→List E→Int→Int
  | _, [], _ => -1
  | pre, e :: u, s => if lastF P (pre ++ [e]) u (s - 1) ≥ 0 then lastF P (pre ++ [e]) u (s - 1) + 1 else if s > 0 ∧ P pre [e] = true then 0 else -1
variable {P:List E→List E→Bool} {fn:A→A→Option Bool}
theorem firstF_cons (pre:List E) (e:E) (u:List E) (s:Int):firstF P pre (e::u) s=if s≤0∧P pre [e]=true then 0 else if firstF P (pre++[e]) u (s - 1)≥0 then firstF P (pre++[e]) u (s - 1)+1 else -1:=by rw [firstF]
theorem lastF_cons (pre:List E) (e:E) (u:List E) (s:Int):lastF P pre (e::u) s=if lastF P (pre++[e]) u (s - 1)≥0 then lastF P (pre++[e]) u (s - 1)+1 else if s>0∧P pre [e]=true then 0 else -1:=by rw [lastF]
theorem firstF_bound : ∀ (pre l:List E) (s:Int),firstF P pre l s = -1∨(0≤firstF P pre l s∧firstF P pre l s<l.length)
  | pre, [], s => .inl rfl
  | pre, e :: u, s => by
    rw [firstF]
    have:=firstF_bound (pre++[e]) u (s - 1)
    simp only [List.length_cons]
    split
    · omega
    · split <;> omega
theorem lastF_bound : ∀ (pre l:List E) (s:Int),lastF P pre l s = -1∨(0≤lastF P pre l s∧lastF P pre l s<l.length)
  | pre, [], s => .inl rfl
  | pre, e :: u, s => by
    rw [lastF]
    have:=lastF_bound (pre++[e]) u (s - 1)
    simp only [List.length_cons]
    split
    · omega
    · split <;> omega
theorem firstF_append : ∀ (pre l m:List E) (s:Int),firstF P pre (l++m) s=if firstF P pre l s≥0 then firstF P pre l s else if firstF P (pre++l) m (s - l.length)≥0 then firstF P (pre++l) m (s - l.length)+l.length else -1
  | pre, [], m, s => by
    have h:=firstF_bound (P:=P) pre m s
    simp only [firstF,List.nil_append,List.append_nil,List.length_nil,Int.natCast_zero,Int.sub_zero,Int.add_zero]
    rw [if_neg (by omega)]
    split <;> omega
  | pre, e :: u, m, s => by
    rw [List.cons_append,firstF,firstF,firstF_append (pre++[e]) u m (s - 1)]
    have e1:pre++[e]++u=pre++e::u:=by simp
    have e2:s - 1 - (u.length:Int)=s - ((e::u).length:Int):=by simp;omega
    have e3:((e::u).length:Int)=u.length+1:=by simp
    rw [e1,e2,e3]
    have h:=firstF_bound (P:=P) (pre++[e]) u (s - 1)
    have h':=firstF_bound (P:=P) (pre++e::u) m (s - (u.length+1))
    by_cases h1:s≤0∧P pre [e]=true
    · simp [h1]
    · rw [if_neg h1,if_neg h1]
      generalize firstF P (pre++[e]) u (s - 1)=x at h ⊢
      generalize firstF P (pre++e::u) m (s - (u.length+1))=y at h' ⊢
      repeat' split
      all_goals omega
theorem lastF_append : ∀ (pre l m:List E) (s:Int),lastF P pre (l++m) s=if lastF P (pre++l) m (s - l.length)≥0 then lastF P (pre++l) m (s - l.length)+l.length else lastF P pre l s
  | pre, [], m, s => by
    have h:=lastF_bound (P:=P) pre m s
    simp only [lastF,List.nil_append,List.append_nil,List.length_nil,Int.natCast_zero,Int.sub_zero,Int.add_zero]
    split <;> omega
  | pre, e :: u, m, s => by
    rw [List.cons_append,lastF,lastF,lastF_append (pre++[e]) u m (s - 1)]
    have e1:pre++[e]++u=pre++e::u:=by simp
    have e2:s - 1 - (u.length:Int)=s - ((e::u).length:Int):=by simp;omega
    have e3:((e::u).length:Int)=u.length+1:=by simp
    rw [e1,e2,e3]
    have h:=lastF_bound (P:=P) (pre++[e]) u (s - 1)
    have h':=lastF_bound (P:=P) (pre++e::u) m (s - (u.length+1))
    by_cases h3:lastF P (pre++e::u) m (s - (u.length+1))≥0
    · rw [if_pos h3,if_pos h3,if_pos (by omega)];omega
    · rw [if_neg h3,if_neg h3]
theorem firstF_none (hp:PredOk N G S P fn) : ∀ (pre l:List E) (s:Int),P pre l=false→firstF P pre l s = -1
  | pre, [], s, _ => rfl
  | pre, e :: u, s, h => by
    have h1:=hp.app pre [e] u
    rw [show [e]++u=e::u from rfl,h] at h1
    have h2:=Bool.or_eq_false_iff.1 h1.symm
    rw [firstF,firstF_none hp (pre++[e]) u (s - 1) h2.2,h2.1]
    simp
theorem lastF_none (hp:PredOk N G S P fn) : ∀ (pre l:List E) (s:Int),P pre l=false→lastF P pre l s = -1
  | pre, [], s, _ => rfl
  | pre, e :: u, s, h => by
    have h1:=hp.app pre [e] u
    rw [show [e]++u=e::u from rfl,h] at h1
    have h2:=Bool.or_eq_false_iff.1 h1.symm
    rw [lastF,lastF_none hp (pre++[e]) u (s - 1) h2.2,h2.1]
    simp
theorem firstF_skip : ∀ (pre l:List E) (s:Int),s≥l.length→firstF P pre l s = -1
  | pre, [], s, _ => rfl
  | pre, e :: u, s, h => by
    simp only [List.length_cons] at h
    rw [firstF,firstF_skip (pre++[e]) u (s - 1) (by omega),if_neg (by omega)];simp
theorem lastF_lim : ∀ (pre l:List E) (s:Int),s≤0→lastF P pre l s = -1
  | pre, [], s, _ => rfl
  | pre, e :: u, s, h => by
    rw [lastF,lastF_lim (pre++[e]) u (s - 1) (by omega),if_neg (by omega),if_neg (by omega)]
theorem firstF_low : ∀ (pre l:List E) (s s':Int),s≤0→s'≤0→firstF P pre l s=firstF P pre l s'
  | pre, [], s, s', _, _ => rfl
  | pre, e :: u, s, s', h, h' => by
    rw [firstF,firstF,firstF_low (pre++[e]) u (s - 1) (s' - 1) (by omega) (by omega)]
    simp only [h,h',true_and]
theorem lastF_high : ∀ (pre l:List E) (s s':Int),s≥l.length→s'≥l.length→lastF P pre l s=lastF P pre l s'
  | pre, [], s, s', _, _ => rfl
  | pre, e :: u, s, s', h, h' => by
    simp only [List.length_cons] at h h'
    rw [lastF,lastF,lastF_high (pre++[e]) u (s - 1) (s' - 1) (by omega) (by omega)]
    have h1:s>0:=by omega
    have h2:s'>0:=by omega
    simp only [h1,h2,true_and]
theorem firstF_clamp (l:List E) (s:Int):firstF P [] l (min (max s 0) (l.length:Int))=firstF P [] l s:=by
  by_cases h:s≤0
  · exact firstF_low _ _ _ _ (by omega) h
  · by_cases h':s≤l.length
    · rw [show min (max s 0) (l.length:Int)=s by omega]
    · rw [firstF_skip _ _ _ (by omega),firstF_skip _ _ _ (by omega)]
theorem lastF_clamp (l:List E) (s:Int):lastF P [] l (min (max s 0) (l.length:Int))=lastF P [] l s:=by
  by_cases h:s≤0
  · rw [lastF_lim _ _ _ (by omega),lastF_lim _ _ _ h]
  · by_cases h':s≤l.length
    · rw [show min (max s 0) (l.length:Int)=s by omega]
    · exact lastF_high _ _ _ _ (by omega) (by omega)
theorem first_ok (ok : OpsOk O k N G S lt) (hp : PredOk N G S P fn) {p : PN E A} {L : List TRef} {B : Nat} (hP : PW p L B) : ∀ (n : Nat) {r : TRef} {t : Tr E} (pre : List E) (s : Int) (acc : A), t.size < n → Rep S p r t → S acc pre → (∀ x ∈ pre ++ t.toList, G x) → (pre ++ t.toList).length < N →
    -4611686018427387904≤s - t.size→s≤4611686018427387904→∃ c,Tree_first.r O k n p r s acc fn=some (firstF P pre t.toList s,c)∧(firstF P pre t.toList s<0→S c (pre++t.toList))
  | 0, _, _, _, _, _, h, _, _, _, _, _, _ => by omega
  | n + 1, r, t, pre, s, acc, hn, hr, ha, hG, hN, b1, b2 => by
    have hbig:=ok.big
    obtain ⟨n1,g1,g2⟩:=get_ok ok hP hr
    have hll:=Tr.len_toList t
    obtain ⟨w,w1,w2⟩:=ok.plus ha g2.sum hG hN
    simp only [Tree_first.r,g1,Option.bind_some,g2.size,w1]
    by_cases h0:t.size=0
    · have e0:((t.size:Int) == 0)=true:=by simp;exact h0
      have:t.toList=[]:=List.eq_nil_of_length_eq_zero (by omega)
      simp only [e0,cond_true,Option.bind_some,Sum.elim_inl]
      have hf:firstF P pre t.toList s = -1:=by rw [this];rfl
      rw [hf];exact ⟨w,rfl,fun _=>w2⟩
    · have e0:((t.size:Int) == 0)=false:=by simp;exact h0
      simp only [e0,cond_false]
      by_cases h1:s≥(t.size:Int)
      · simp only [h1,decide_true,cond_true,Option.bind_some,Sum.elim_inl]
        rw [firstF_skip pre t.toList s (by omega)];exact ⟨w,rfl,fun _=>w2⟩
      · simp only [h1,decide_false,cond_false,hp.run ha g2.sum hG hN,Option.bind_some]
        by_cases h2:s≤0∧P pre t.toList=false
        · simp only [h2.1,h2.2,decide_true,cond_true,Bool.not_false,Option.bind_some,Sum.elim_inl]
          rw [firstF_none hp pre t.toList s h2.2];exact ⟨w,rfl,fun _=>w2⟩
        · have h3 : (bif decide (s ≤ 0) then (bif !P pre t.toList then some (Sum.inl (-1, w)) else some (Sum.inr ())) else some (Sum.inr () : Sum (Int × A) Unit)) = some (Sum.inr ()) := by
            by_cases h4:s≤0
            · have h5 : P pre t.toList = true := by
                cases h6:P pre t.toList
                · exact absurd ⟨h4,h6⟩ h2
                · rfl
              simp only [h4,h5,decide_true,cond_true,Bool.not_true,cond_false]
            · simp only [h4,decide_false,cond_false]
          rw [h3]
          cases t with
          | nil => exact absurd rfl h0
          | node r0 e0' l u =>
            obtain ⟨rfl,he,hl,hu,hlk⟩:=g2.node rfl
            obtain ⟨n2,g3,g4⟩:=get_ok ok hP hl
            have hsz:(Tr.node r e0' l u).size=l.size+1+u.size:=rfl
            have hln:(Tr.node r e0' l u).toList=l.toList++e0'::u.toList:=rfl
            have hlu:=Tr.len_toList u
            have hlL:=Tr.len_toList l
            rw [hsz] at hn b1
            rw [hln] at hG hN ⊢
            simp only [List.length_append,List.length_cons] at hN
            have sub1 : ∀ x∈pre++l.toList,G x:=fun x hx=>hG x (by simp at hx ⊢;rcases hx with hx | hx <;> simp [hx])
            obtain ⟨c1,d1,d2⟩:=first_ok ok hp hP n pre s acc (by omega) hl ha sub1 (by simp;omega) (by omega) b2
            simp only [Option.bind_some,Sum.elim_inr,g3,d1]
            have hb:=firstF_bound (P:=P) pre l.toList s
            have happ:=firstF_append (P:=P) pre l.toList (e0'::u.toList) s
            by_cases h4:firstF P pre l.toList s≥0
            · simp only [h4,decide_true,cond_true]
              rw [if_pos h4] at happ
              exact ⟨c1,by rw [happ],fun h=>by omega⟩
            · simp only [h4,decide_false,cond_false]
              rw [if_neg h4] at happ
              have hc1:=d2 (by omega)
              obtain ⟨se,s1,s2⟩:=ok.sum n1.e (hG _ (by rw [he];simp))
              rw [he] at s2
              have hGe : ∀ x∈(pre++l.toList)++[e0'],G x:=fun x hx=>hG x (by simp at hx ⊢;rcases hx with hx | hx | hx <;> simp [hx])
              have hNe:((pre++l.toList)++[e0']).length<N:=by simp;omega
              have hfn:=hp.run hc1 s2 hGe hNe
              obtain ⟨c2,f1,f2⟩:=ok.plus hc1 s2 hGe hNe
              simp only [s1,Option.bind_some,g4.size,hfn,f1]
              have hq:=firstF_cons (P:=P) (pre++l.toList) e0' u.toList (s - l.toList.length)
              generalize firstF P (pre++l.toList) (e0'::u.toList) (s - l.toList.length)=q at happ hq
              by_cases h5:s≤(l.size:Int)∧P (pre++l.toList) [e0']=true
              · simp only [h5.1,h5.2,decide_true,cond_true,Option.bind_some,Sum.elim_inl]
                rw [if_pos ⟨by omega,h5.2⟩] at hq
                rw [hq,if_pos (by omega)] at happ
                exact ⟨c1,by rw [happ];congr 2;omega,fun h=>by omega⟩
              · have h6 : (bif decide (s ≤ (l.size : Int)) then (bif P (pre ++ l.toList) [e0'] then some (Sum.inl ((l.size : Int), c1)) else some (Sum.inr ())) else some (Sum.inr () : Sum (Int × A) Unit)) = some (Sum.inr ()) := by
                  by_cases h7:s≤(l.size:Int)
                  · have h8 : P (pre ++ l.toList) [e0'] = false := by
                      cases h6:P (pre++l.toList) [e0']
                      · rfl
                      · exact absurd ⟨h7,h6⟩ h5
                    simp only [h7,h8,decide_true,cond_true,cond_false]
                  · simp only [h7,decide_false,cond_false]
                rw [h6]
                rw [if_neg (fun h=>h5 ⟨by have:=h.1;omega,h.2⟩)] at hq
                have v1:w64 (w64 (s - (l.size:Int)) - 1)=s - (l.toList.length:Int) - 1:=by
                  rw [w64_id (x:=s - (l.size:Int)) (by omega) (by omega),w64_id (by omega) (by omega),hlL]
                have hGr : ∀ x∈(pre++l.toList++[e0'])++u.toList,G x:=fun x hx=>hG x (by simpa using hx)
                obtain ⟨c3,y1,y2⟩:=first_ok ok hp hP n (pre++l.toList++[e0']) (s - (l.toList.length:Int) - 1) c2 (by omega) hu f2 hGr (by simp;omega) (by omega) (by omega)
                have hb3:=firstF_bound (P:=P) (pre++l.toList++[e0']) u.toList (s - (l.toList.length:Int) - 1)
                simp only [Option.bind_some,Sum.elim_inr,v1,y1]
                by_cases h7:firstF P (pre++l.toList++[e0']) u.toList (s - (l.toList.length:Int) - 1)≥0
                · simp only [h7,decide_true,cond_true]
                  rw [if_pos h7] at hq
                  rw [hq,if_pos (by omega)] at happ
                  refine ⟨c3,?_,fun h=>by omega⟩
                  rw [happ,w64_id (x:=(l.size:Int)+1) (by omega) (by omega),w64_id (by omega) (by omega)]
                  congr 2;omega
                · simp only [h7,decide_false,cond_false]
                  rw [if_neg h7] at hq
                  rw [hq,if_neg (by omega)] at happ
                  refine ⟨c3,?_,fun _=>by have:=y2 (by omega);simpa using this⟩
                  rw [happ]
                  congr 2;omega
theorem last_of_ok (ok : OpsOk O k N G S lt) (hp : PredOk N G S P fn) {p : PN E A} {L : List TRef} {B : Nat} (hP : PW p L B) : ∀ (n : Nat) {r : TRef} {t : Tr E} (pre : List E) (s : Int) (acc : A), t.size < n → Rep S p r t → S acc pre → (∀ x ∈ pre ++ t.toList, G x) → (pre ++ t.toList).length < N →
    -4611686018427387904≤s - t.size→s≤4611686018427387904→Tree_lastOf.r O k n p r s acc fn=some (lastF P pre t.toList s)
  | 0, _, _, _, _, _, h, _, _, _, _, _, _ => by omega
  | n + 1, r, t, pre, s, acc, hn, hr, ha, hG, hN, b1, b2 => by
    have hbig:=ok.big
    obtain ⟨n1,g1,g2⟩:=get_ok ok hP hr
    have hll:=Tr.len_toList t
    simp only [Tree_lastOf.r,g1,Option.bind_some,g2.size]
    by_cases h0:t.size=0
    · have e0:((t.size:Int) == 0)=true:=by simp;exact h0
      have:t.toList=[]:=List.eq_nil_of_length_eq_zero (by omega)
      simp only [e0,cond_true,Option.bind_some,Sum.elim_inl]
      have hf:lastF P pre t.toList s = -1:=by rw [this];rfl
      rw [hf]
    · have e0:((t.size:Int) == 0)=false:=by simp;exact h0
      simp only [e0,cond_false]
      by_cases h1:s≤0
      · simp only [h1,decide_true,cond_true,Option.bind_some,Sum.elim_inl]
        rw [lastF_lim pre t.toList s h1]
      · simp only [h1,decide_false,cond_false,hp.run ha g2.sum hG hN,Option.bind_some]
        by_cases h2:s≥(t.size:Int)∧P pre t.toList=false
        · simp only [h2.1,h2.2,decide_true,cond_true,Bool.not_false,Option.bind_some,Sum.elim_inl]
          rw [lastF_none hp pre t.toList s h2.2]
        · have h3 : (bif decide (s ≥ (t.size : Int)) then (bif !P pre t.toList then some (Sum.inl (-1)) else some (Sum.inr ())) else some (Sum.inr () : Sum Int Unit)) = some (Sum.inr ()) := by
            by_cases h4:s≥(t.size:Int)
            · have h5 : P pre t.toList = true := by
                cases h6:P pre t.toList
                · exact absurd ⟨h4,h6⟩ h2
                · rfl
              simp only [h4,h5,decide_true,cond_true,Bool.not_true,cond_false]
            · simp only [h4,decide_false,cond_false]
          rw [h3]
          cases t with
          | nil => exact absurd rfl h0
          | node r0 e0' l u =>
            obtain ⟨rfl,he,hl,hu,hlk⟩:=g2.node rfl
            obtain ⟨n2,g3,g4⟩:=get_ok ok hP hl
            have hsz:(Tr.node r e0' l u).size=l.size+1+u.size:=rfl
            have hln:(Tr.node r e0' l u).toList=l.toList++e0'::u.toList:=rfl
            have hlu:=Tr.len_toList u
            have hlL:=Tr.len_toList l
            rw [hsz] at hn b1
            rw [hln] at hG hN ⊢
            simp only [List.length_append,List.length_cons] at hN
            have sub1 : ∀ x∈pre++l.toList,G x:=fun x hx=>hG x (by simp at hx ⊢;rcases hx with hx | hx <;> simp [hx])
            obtain ⟨c1,d1,d2⟩:=ok.plus ha g4.sum sub1 (by simp;omega)
            obtain ⟨se,s1,s2⟩:=ok.sum n1.e (hG _ (by rw [he];simp))
            rw [he] at s2
            have hGe : ∀ x∈(pre++l.toList)++[e0'],G x:=fun x hx=>hG x (by simp at hx ⊢;rcases hx with hx | hx | hx <;> simp [hx])
            have hNe:((pre++l.toList)++[e0']).length<N:=by simp;omega
            have hfn:=hp.run d2 s2 hGe hNe
            obtain ⟨c2,f1,f2⟩:=ok.plus d2 s2 hGe hNe
            have v1:w64 (w64 (s - (l.size:Int)) - 1)=s - (l.toList.length:Int) - 1:=by
              rw [w64_id (x:=s - (l.size:Int)) (by omega) (by omega),w64_id (by omega) (by omega),hlL]
            have hGr : ∀ x∈(pre++l.toList++[e0'])++u.toList,G x:=fun x hx=>hG x (by simpa using hx)
            have hr1:=last_of_ok ok hp hP n (pre++l.toList++[e0']) (s - (l.toList.length:Int) - 1) c2 (by omega) hu f2 hGr (by simp;omega) (by omega) (by omega)
            have hl1:=last_of_ok ok hp hP n pre s acc (by omega) hl ha sub1 (by simp;omega) (by omega) b2
            have hb3:=lastF_bound (P:=P) (pre++l.toList++[e0']) u.toList (s - (l.toList.length:Int) - 1)
            have happ:=lastF_append (P:=P) pre l.toList (e0'::u.toList) s
            have hq:=lastF_cons (P:=P) (pre++l.toList) e0' u.toList (s - l.toList.length)
            generalize lastF P (pre++l.toList) (e0'::u.toList) (s - l.toList.length)=q at happ hq
            simp only [Option.bind_some,Sum.elim_inr,g3,d1,s1,f1,v1,hr1,g4.size,hfn,hl1]
            by_cases h4:lastF P (pre++l.toList++[e0']) u.toList (s - (l.toList.length:Int) - 1)≥0
            · simp only [h4,decide_true,cond_true]
              rw [if_pos h4] at hq
              rw [hq,if_pos (by omega)] at happ
              rw [happ,w64_id (x:=_+(l.size:Int)) (by omega) (by omega),w64_id (by omega) (by omega)]
              congr 1;omega
            · simp only [h4,decide_false,cond_false]
              rw [if_neg h4] at hq
              by_cases h5:s>(l.size:Int)∧P (pre++l.toList) [e0']=true
              · simp only [h5.1,h5.2,decide_true,cond_true]
                rw [if_pos ⟨by omega,h5.2⟩] at hq
                rw [hq,if_pos (by omega)] at happ
                rw [happ];congr 1;omega
              · rw [if_neg (fun h=>h5 ⟨by have:=h.1;omega,h.2⟩)] at hq
                rw [hq,if_neg (by omega)] at happ
                rw [happ]
                by_cases h7:s>(l.size:Int)
                · have h8 : P (pre ++ l.toList) [e0'] = false := by
                    cases h6:P (pre++l.toList) [e0']
                    · rfl
                    · exact absurd ⟨h7,h6⟩ h5
                  simp only [h7,h8,decide_true,cond_true,cond_false]
                · simp only [h7,decide_false,cond_false]
theorem Gr.first (ok : OpsOk O k N G S lt) (hk : N ≤ k) (hp : PredOk N G S P fn) {p : PN E A} {r : TRef} {l : List E} {c : Int} {B : Nat} (h : Gr S lt G p r l c B) (i : Int) (hN : l.length < N) :
    Tree_First.f O k p r i fn=some (firstF P [] l i):=by
  have hlen:=h.len ok
  obtain ⟨t,hP,hr,rfl⟩:=h.ex
  have hbig:=ok.big
  have hll:=Tr.len_toList t
  have hg:gmin (gmax i 0) (t.toList.length:Int)=min (max i 0) (t.toList.length:Int):=by unfold gmin gmax;split <;> split <;> omega
  obtain ⟨c,h1,h2⟩:=first_ok ok hp hP k [] (min (max i 0) (t.toList.length:Int)) O.zA (by omega) hr ok.zero (by simpa using h.good) (by simpa using hN) (by omega) (by omega)
  unfold Tree_First.f Tree_first.f
  rw [hlen]
  simp only [Option.bind_some,hg,h1,firstF_clamp]
theorem Gr.last (ok : OpsOk O k N G S lt) (hk : N ≤ k) (hp : PredOk N G S P fn) {p : PN E A} {r : TRef} {l : List E} {c : Int} {B : Nat} (h : Gr S lt G p r l c B) (i : Int) (hN : l.length < N) :
    Tree_Last.f O k p r i fn=some (lastF P [] l i):=by
  have hlen:=h.len ok
  obtain ⟨t,hP,hr,rfl⟩:=h.ex
  have hbig:=ok.big
  have hll:=Tr.len_toList t
  have hg:gmin (gmax i 0) (t.toList.length:Int)=min (max i 0) (t.toList.length:Int):=by unfold gmin gmax;split <;> split <;> omega
  have h1:=last_of_ok ok hp hP k [] (min (max i 0) (t.toList.length:Int)) O.zA (by omega) hr ok.zero (by simpa using h.good) (by simpa using hN) (by omega) (by omega)
  unfold Tree_Last.f Tree_lastOf.f
  rw [hlen]
  simp only [Option.bind_some,hg,h1,lastF_clamp]
end
end Go.Proofs.YtgjbibabegabnaaGreat
namespace Go.Proofs.YtgjbibabegabnaaGreat
open Go Go.Proofs.YtgjbibabegabnaaGreat.Sx
section
variable {E A:Type} {O:Ops E A} {k N:Nat} {G:E→Prop} {S:A→List E→Prop} {lt:E→E→Prop}
theorem last_ok (ok : OpsOk O k N G S lt) (hk : N ≤ k) : ∀ (n : Nat) {p : PN E A} {L : List TRef} {B : Nat} (hP : PW p L B) {r : TRef} {t : Tr E}, t.size < n → t ≠ .nil → Rep S p r t → t.refs.Nodup → (∀ x ∈ t.toList, G x) → t.size < N →
    ∃ r' m e p' nm,Tree_last.r O k n p r=some (r',m,p')∧(Tr.last k t).2=some (m,e)∧Left S p p' L B r' (Tr.last k t).1 t.refs∧look p' m=some nm∧nm.e=e
  | 0, _, _, _, _, _, _, h, _, _, _, _, _ => by omega
  | n + 1, p, L, B, hP, r, .nil, _, h, _, _, _, _ => absurd rfl h
  | n + 1, p, L, B, hP, r, .node r0 e l u, hn, _, hr, hnd, hG, hN => by
    obtain ⟨n1,q1,q2⟩:=get_ok ok hP hr
    obtain ⟨rfl,he,hl,hu,hlk⟩:=q2.node rfl
    simp only [Tr.size] at hn hN
    simp only [Tree_last.r,q1,Option.bind_some]
    cases u with
    | nil =>
      have e0:(n1.right.gen == 0)=true:=by simpa using hu.nil_iff.2 rfl
      rw [e0]
      exact ⟨n1.left,r,e,p,n1,rfl,rfl,⟨hP,hl,fun x _=>rfl,rfl⟩,hlk,he⟩
    | node r2 e2 c d =>
      have e0:(n1.right.gen == 0)=false:=by
        have:n1.right.gen≠0:=fun h=>by have:=hu.nil_iff.1 h;cases this
        simpa using this
      rw [e0]
      obtain ⟨r1,m,x,p1,nm,t1,t2,t3,t4,t5⟩:=last_ok ok hk n hP (by omega) (by simp) hu (nodup_right hnd) (fun x hx=>hG x (by simp [Tr.toList] at hx ⊢;rcases hx with hx | hx | hx <;> simp [hx])) (by omega)
      obtain ⟨m',x',s1,s2,s3⟩:=Tr.last_spec k (.node r2 e2 c d) (by simp)
      have hmm:m'=m∧x'=x:=by rw [s1] at t2;cases t2;exact ⟨rfl,rfl⟩
      obtain ⟨rfl,rfl⟩:=hmm
      have hnd':(l.refs++r::((Tr.last k (.node r2 e2 c d)).1.refs++[m'])).Nodup:=by rw [← s3];exact hnd
      have hsub : ∀ y∈(Tr.last k (.node r2 e2 c d)).1.refs,y∈(Tr.node r2 e2 c d).refs:=fun y hy=>by rw [s3];exact List.mem_append_left _ hy
      have hlk1:look p1 r=some n1:=by rw [t3.frame r (nodup_u hnd)];exact hlk
      have hl1:Rep S p1 n1.left l:=hl.frame (fun y hy=>t3.frame y (fun h=>nodup_lu hnd hy h))
      have hszl:(Tr.last k (.node r2 e2 c d)).1.size+1=(Tr.node r2 e2 c d).size:=by
        have:=congrArg List.length s2
        simp only [List.length_append,List.length_singleton,Tr.len_toList] at this;omega
      have hnd1:(l.refs++r::(Tr.last k (.node r2 e2 c d)).1.refs).Nodup:=List.Nodup.sublist (List.Sublist.append_left (List.Sublist.cons_cons _ (List.sublist_append_left _ _)) _) hnd'
      have hGl : ∀ y∈l.toList++n1.e::(Tr.last k (.node r2 e2 c d)).1.toList,G y:=by
        intro y hy
        refine hG y ?_
        have e1:(Tr.node r e l (.node r2 e2 c d)).toList=l.toList++e::((Tr.last k (.node r2 e2 c d)).1.toList++[x']):=by rw [← s2];rfl
        rw [e1]
        rw [he] at hy
        simp only [List.mem_append,List.mem_cons] at hy ⊢
        rcases hy with hy | hy | hy
        · exact .inl hy
        · exact .inr (.inl hy)
        · exact .inr (.inr (.inl hy))
      obtain ⟨r',p2,v1,v2⟩:=linkf_ok ok hk t3.pw hl1 hlk1 t3.rep hnd1 hGl (by omega)
      refine ⟨r',m',x',p2,nm,?_,?_,⟨v2.pw,?_,fun y hy=>?_,v2.cap.trans t3.cap⟩,?_,t5⟩
      · simp only [cond_false,t1,Option.bind_some,v1]
      · rw [Tr.last];exact s1
      · rw [Tr.last];rw [he] at v2;exact v2.rep
      · simp only [Tr.refs,List.mem_append,List.mem_cons,not_or] at hy
        rw [v2.frame y (by
          simp only [List.mem_append,List.mem_cons,not_or]
          exact ⟨hy.1,hy.2.1,fun h=>by have:=hsub y h;simp only [Tr.refs,List.mem_append,List.mem_cons] at this;rcases this with h | h | h <;> simp_all⟩),t3.frame y (by simp only [Tr.refs,List.mem_append,List.mem_cons,not_or];exact hy.2.2)]
      · rw [v2.frame m' (by
          simp only [List.mem_append,List.mem_cons,not_or]
          have hm':m'∈(Tr.node r2 e2 c d).refs:=by rw [s3];simp
          refine ⟨fun h=>nodup_lu hnd h hm',fun e=>nodup_u hnd (e▸hm'),fun h=>?_⟩
          have hu2:=nodup_right hnd'
          exact (List.nodup_append.1 hu2).2.2 m' h m' (by simp) rfl)]
        exact t4
theorem merge_ok (ok : OpsOk O k N G S lt) (hk : N ≤ k) {p : PN E A} {L : List TRef} {B : Nat} (hP : PW p L B) {a b : TRef} {l u : Tr E} (hl : Rep S p a l) (hu : Rep S p b u) (hnd : (l.refs ++ u.refs).Nodup) (hG : ∀ x ∈ l.toList ++ u.toList, G x) (hN : l.size + u.size < N) :
    ∃ r' p',Tree_merge.f O k p a b=some (r',p')∧Left S p p' L B r' (Tr.merge k l u) (l.refs++u.refs):=by
  unfold Tree_merge.f
  cases l with
  | nil =>
    have e0:(a.gen == 0)=true:=by simpa using hl.nil_iff.2 rfl
    rw [e0]
    exact ⟨b,p,rfl,hP,by simpa [Tr.merge] using hu,fun _ _=>rfl,rfl⟩
  | node r e c d =>
    have e0:(a.gen == 0)=false:=by
      have:a.gen≠0:=fun h=>by have:=hl.nil_iff.1 h;cases this
      simpa using this
    rw [e0]
    cases u with
    | nil =>
      have e1:(b.gen == 0)=true:=by simpa using hu.nil_iff.2 rfl
      rw [e1]
      exact ⟨a,p,rfl,hP,by simpa [Tr.merge] using hl,fun _ _=>rfl,rfl⟩
    | node r2 e2 f g =>
      have e1:(b.gen == 0)=false:=by
        have:b.gen≠0:=fun h=>by have:=hu.nil_iff.1 h;cases this
        simpa using this
      rw [e1]
      obtain ⟨d1,d2,d3⟩:=List.nodup_append.1 hnd
      obtain ⟨r1,m,x,p1,nm,t1,t2,t3,t4,t5⟩:=last_ok ok hk k hP (by omega) (by simp) hl d1 (fun x hx=>hG x (List.mem_append_left _ hx)) (by omega)
      obtain ⟨m',x',s1,s2,s3⟩:=Tr.last_spec k (.node r e c d) (by simp)
      have hmm:m'=m∧x'=x:=by rw [s1] at t2;cases t2;exact ⟨rfl,rfl⟩
      obtain ⟨rfl,rfl⟩:=hmm
      have hszl:(Tr.last k (.node r e c d)).1.size+1=(Tr.node r e c d).size:=by
        have:=congrArg List.length s2
        simp only [List.length_append,List.length_singleton,Tr.len_toList] at this;omega
      have hu1:Rep S p1 b (.node r2 e2 f g):=hu.frame (fun y hy=>t3.frame y (fun h=>d3 y h y hy rfl))
      have hnd1:((Tr.last k (.node r e c d)).1.refs++m'::(Tr.node r2 e2 f g).refs).Nodup:=by
        have:(Tr.last k (.node r e c d)).1.refs++m'::(Tr.node r2 e2 f g).refs=(Tr.node r e c d).refs++(Tr.node r2 e2 f g).refs:=by rw [s3];simp
        rw [this];exact hnd
      have hG1 : ∀ y∈(Tr.last k (.node r e c d)).1.toList++nm.e::(Tr.node r2 e2 f g).toList,G y:=by
        intro y hy
        refine hG y ?_
        rw [s2,t5.symm];simpa using hy
      obtain ⟨r',p2,v1,v2⟩:=linkf_ok ok hk t3.pw t3.rep t4 hu1 hnd1 hG1 (by omega)
      have t1':Tree_last.f O k p a=some (r1,m',p1):=t1
      refine ⟨r',p2,?_,⟨v2.pw,?_,fun y hy=>?_,v2.cap.trans t3.cap⟩⟩
      · simp only [cond_false,t1',Option.bind_some,v1]
      · have : Tr.merge k (.node r e c d) (.node r2 e2 f g) = Tr.link k (Tr.last k (.node r e c d)).1 m' x' (.node r2 e2 f g) := by
          unfold Tr.merge
          have:Tr.last k (.node r e c d)=((Tr.last k (.node r e c d)).1,some (m',x')):=by rw [← s1]
          simp only
          rw [this]
        rw [this,← t5];exact v2.rep
      · rw [List.mem_append,not_or] at hy
        have hy1:=hy.1
        rw [s3,List.mem_append,not_or] at hy1
        rw [v2.frame y (by simp only [List.mem_append,List.mem_cons,not_or];exact ⟨hy1.1,by simpa using hy1.2,hy.2⟩),t3.frame y hy.1]
end
end Go.Proofs.YtgjbibabegabnaaGreat
namespace Go.Proofs.YtgjbibabegabnaaGreat
open Go Go.Proofs.YtgjbibabegabnaaGreat.Sx
section
variable {E A:Type} {O:Ops E A} {k N:Nat} {G:E→Prop} {S:A→List E→Prop} {lt:E→E→Prop}
structure DropL (S:A→List E→Prop) (p p':PN E A) (L:List TRef) (B:Nat) (t t':Tr E) (r' x0:TRef):Prop where
  pw:PW p' (L.erase x0) B
  rep:Rep S p' r' t'
  refs:(x0::t'.refs).Perm t.refs
  frame : ∀ x,x∉t.refs→look p' x=look p x
  cap:p'.cap=p.cap
theorem drop_ok (ok : OpsOk O k N G S lt) (hk : N ≤ k) {p : PN E A} {L : List TRef} {B : Nat} (hP : PW p L B) (e : E) : ∀ (n : Nat) {r : TRef} {t : Tr E}, t.size < n → Rep S p r t → t.refs.Nodup → InOrd lt t.toList → (∀ x ∈ t.toList, G x) → t.size < N →
    ∃ a m b,Cut lt e t.toList a m b ∧
      ((m=[]∧Tree_drop.r O k n p r e=some (r,O.zE,false,p)) ∨
       (∃ y r' p' t' x0,m=[y]∧Tree_drop.r O k n p r e=some (r',y,true,p')∧t'.toList=a++b∧DropL S p p' L B t t' r' x0))
  | 0, _, _, h, _, _, _, _, _ => by omega
  | n + 1, r, .nil, hn, hr, hnd, hs, hG, hN => by
    refine ⟨[],[],[],Cut.nil e,.inl ⟨rfl,?_⟩⟩
    have e0:(r.gen == 0)=true:=by simpa using hr.nil_iff.2 rfl
    simp only [Tree_drop.r,e0,cond_true]
  | n + 1, r, .node r0 e0 l u, hn, hr, hnd, hs, hG, hN => by
    obtain ⟨n1,g1,g2⟩:=get_ok ok hP hr
    obtain ⟨rfl,he,hl,hu,hlk⟩:=g2.node rfl
    have hg:(r.gen == 0)=false:=by
      have:=hP.gen_ne (hP.mem hlk);simpa using this
    obtain ⟨c,c1,c2,c3⟩:=ok.cmp e n1.e
    have hsz:(Tr.node r e0 l u).size=l.size+1+u.size:=rfl
    have hln:(Tr.node r e0 l u).toList=l.toList++e0::u.toList:=rfl
    have hrL:r∈L:=hP.mem hlk
    simp only [Tree_drop.r,hg,cond_false,g1,Option.bind_some,c1]
    rw [he] at c2 c3
    rw [hln] at hs hG ⊢
    by_cases h1:c<0
    · have hlt:=c2.1 h1
      simp only [h1,decide_true,cond_true]
      obtain ⟨a,m,b,hcut,hres⟩:=drop_ok ok hk hP e n (by omega) hl (nodup_left hnd) (sorted_l hs) (fun x hx=>hG x (List.mem_append_left _ hx)) (by omega)
      refine ⟨a,m,b++e0::u.toList,hcut.left ok hs hlt,?_⟩
      rcases hres with ⟨h2,h4⟩ | ⟨y,r',p',t',x0,h2,h4,h5,h6⟩
      · exact .inl ⟨h2,by simp only [h4,Option.bind_some];rfl⟩
      · right
        have hx0:x0∈l.refs:=h6.refs.mem_iff.1 List.mem_cons_self
        have hlk1:look p' r=some n1:=by rw [h6.frame r (nodup_l hnd)];exact hlk
        have hu1:Rep S p' n1.right u:=hu.frame (fun x hx=>h6.frame x (fun h=>nodup_lu hnd h hx))
        have hperm:(x0::(t'.refs++r::u.refs)).Perm (Tr.node r e0 l u).refs:=by
          have:=h6.refs.append_right (r::u.refs)
          simpa [Tr.refs] using this
        have hnd2:(x0::(t'.refs++r::u.refs)).Nodup:=hperm.nodup_iff.2 hnd
        have hts:t'.size≤l.size:=by
          have:=congrArg List.length h5
          have h7:=congrArg List.length hcut.eq
          simp only [Tr.len_toList,List.length_append,List.length_cons] at this h7;omega
        obtain ⟨r2,p2,v1,v2⟩:=linkf_ok ok hk h6.pw h6.rep hlk1 hu1 (List.nodup_cons.1 hnd2).2 (fun x hx=>by
          rw [h5,he] at hx
          simp only [List.mem_append,List.mem_cons] at hx
          have h8 : ∀ y,y∈a∨y∈b→y∈l.toList:=fun y hy=>by rw [hcut.eq];rcases hy with hy | hy <;> simp [hy]
          rcases hx with hx | rfl | hx
          · exact hG x (List.mem_append_left _ (h8 x hx))
          · exact hG x (by simp)
          · exact hG x (by simp [hx])) (by omega)
        refine ⟨y,r2,p2,Tr.link k t' r n1.e u,x0,h2,?_,?_,v2.pw,v2.rep,?_,fun x hx2=>?_,v2.cap.trans h6.cap⟩
        · simp only [h4,Option.bind_some,v1];rfl
        · rw [Tr.link_list,h5,he];simp
        · rw [Tr.link_refs];exact hperm
        · have hx3:x∉l.refs:=fun h=>hx2 (by simp [Tr.refs,h])
          rw [v2.frame x (fun h=>hx2 (hperm.mem_iff.1 (List.mem_cons_of_mem _ h))),h6.frame x hx3]
    · simp only [h1,decide_false,cond_false]
      by_cases h1':c>0
      · have hlt:=c3.1 h1'
        simp only [h1',decide_true,cond_true]
        obtain ⟨a,m,b,hcut,hres⟩:=drop_ok ok hk hP e n (by omega) hu (nodup_right hnd) (sorted_u hs) (fun x hx=>hG x (by simp [hx])) (by omega)
        refine ⟨l.toList++e0::a,m,b,hcut.right ok hs hlt,?_⟩
        rcases hres with ⟨h2,h4⟩ | ⟨y,r',p',t',x0,h2,h4,h5,h6⟩
        · exact .inl ⟨h2,by simp only [h4,Option.bind_some];rfl⟩
        · right
          have hx0:x0∈u.refs:=h6.refs.mem_iff.1 List.mem_cons_self
          have hlk1:look p' r=some n1:=by rw [h6.frame r (nodup_u hnd)];exact hlk
          have hl1:Rep S p' n1.left l:=hl.frame (fun x hx=>h6.frame x (fun h=>nodup_lu hnd hx h))
          have hperm:(x0::(l.refs++r::t'.refs)).Perm (Tr.node r e0 l u).refs:=by
            have h7:(l.refs++r::(x0::t'.refs)).Perm (l.refs++r::u.refs):=List.Perm.append_left _ (List.Perm.cons _ h6.refs)
            refine List.Perm.trans ?_ h7
            rw [show l.refs++r::x0::t'.refs=(l.refs++[r])++x0::t'.refs by simp]
            refine List.Perm.trans ?_ List.perm_middle.symm
            simp
          have hnd2:(x0::(l.refs++r::t'.refs)).Nodup:=hperm.nodup_iff.2 hnd
          have hts:t'.size≤u.size:=by
            have:=congrArg List.length h5
            have h7:=congrArg List.length hcut.eq
            simp only [Tr.len_toList,List.length_append,List.length_cons] at this h7;omega
          obtain ⟨r2,p2,v1,v2⟩:=linkf_ok ok hk h6.pw hl1 hlk1 h6.rep (List.nodup_cons.1 hnd2).2 (fun x hx=>by
            rw [h5,he] at hx
            simp only [List.mem_append,List.mem_cons] at hx
            have h8 : ∀ y,y∈a∨y∈b→y∈u.toList:=fun y hy=>by rw [hcut.eq];rcases hy with hy | hy <;> simp [hy]
            rcases hx with hx | rfl | hx
            · exact hG x (by simp [hx])
            · exact hG x (by simp)
            · exact hG x (by simp [h8 x hx])) (by omega)
          refine ⟨y,r2,p2,Tr.link k l r n1.e t',x0,h2,?_,?_,v2.pw,v2.rep,?_,fun x hx2=>?_,v2.cap.trans h6.cap⟩
          · simp only [h4,Option.bind_some,v1];rfl
          · rw [Tr.link_list,h5,he];simp
          · rw [Tr.link_refs];exact hperm
          · have hx3:x∉u.refs:=fun h=>hx2 (by simp [Tr.refs,h])
            rw [v2.frame x (fun h=>hx2 (hperm.mem_iff.1 (List.mem_cons_of_mem _ h))),h6.frame x hx3]
      · simp only [h1',decide_false,cond_false]
        have n1' : ¬ lt e e0:=fun h=>h1 (c2.2 h)
        have n2' : ¬ lt e0 e:=fun h=>h1' (c3.2 h)
        refine ⟨l.toList,[e0],u.toList,Cut.mid ok hs n1' n2',.inr ?_⟩
        obtain ⟨p1,q1,q2,q3,q4⟩:=hP.drop (z:=zNode O) hlk
        have hl1:Rep S p1 n1.left l:=hl.frame (fun x hx=>q3 x (fun h=>nodup_l hnd (h▸hx)))
        have hu1:Rep S p1 n1.right u:=hu.frame (fun x hx=>q3 x (fun h=>nodup_u hnd (h▸hx)))
        have hperm:(r::(l.refs++u.refs)).Perm (Tr.node r e0 l u).refs:=List.perm_middle.symm
        have hnd2:(r::(l.refs++u.refs)).Nodup:=hperm.nodup_iff.2 hnd
        obtain ⟨r2,p2,v1,v2⟩:=merge_ok ok hk q2 hl1 hu1 (List.nodup_cons.1 hnd2).2 (fun x hx=>hG x (by
          rcases List.mem_append.1 hx with hx | hx <;> simp [hx])) (by omega)
        obtain ⟨w1,w2⟩:=Tr.merge_spec k l u
        refine ⟨e0,r2,p2,Tr.merge k l u,r,rfl,?_,w1,v2.pw,v2.rep,by rw [w2];exact hperm,fun x hx=>?_,v2.cap.trans q4⟩
        · simp only [q1,Option.bind_some,v1,he]
        · have hxr:x≠r:=fun h=>hx (by simp [Tr.refs,h])
          rw [v2.frame x (fun h=>hx (hperm.mem_iff.1 (List.mem_cons_of_mem _ h))),q3 x hxr]
end
end Go.Proofs.YtgjbibabegabnaaGreat
namespace Go.Proofs.YtgjbibabegabnaaGreat
open Go Go.Proofs.YtgjbibabegabnaaGreat.Sx
section
variable {E A:Type} {O:Ops E A} {k N:Nat} {G:E→Prop} {S:A→List E→Prop} {lt:E→E→Prop}
theorem all_ok (ok:OpsOk O k N G S lt) {p:PN E A} {L:List TRef} {B:Nat} (hP:PW p L B) : ∀ (n:Nat) {r:TRef} {t:Tr E} (out:List E),t.size<n→Rep S p r t→out.length+t.size<4294967296→Tree_all.r O k n p r out=some (out++t.toList)
  | 0, _, _, _, h, _, _ => by omega
  | n + 1, r, .nil, out, hn, hr, hb => by
    have e0:(r.gen == 0)=true:=by simpa using hr.nil_iff.2 rfl
    simp only [Tree_all.r,e0,cond_true,Tr.toList,List.append_nil]
  | n + 1, r, .node r0 e0 l u, out, hn, hr, hb => by
    obtain ⟨n1,g1,g2⟩:=get_ok ok hP hr
    obtain ⟨rfl,he,hl,hu,hlk⟩:=g2.node rfl
    have hg:=hP.ne0 hlk
    have hsz:(Tr.node r e0 l u).size=l.size+1+u.size:=rfl
    have hll:=Tr.len_toList l
    simp only [Tree_all.r,hg,cond_false,g1,Option.bind_some]
    rw [all_ok ok hP n out (by omega) hl (by omega)]
    simp only [Option.bind_some]
    rw [decide_eq_true (by simp;omega)]
    simp only [cond_true]
    rw [all_ok ok hP n _ (by omega) hu (by simp;omega)]
    simp [Tr.toList,he]
theorem Gr.drop (ok : OpsOk O k N G S lt) (hk : N ≤ k) {p : PN E A} {r : TRef} {l : List E} {c : Int} {B : Nat} (h : Gr S lt G p r l c B) (e : E) (hN : l.length < N) :
    ∃ a m b,Cut lt e l a m b∧((m=[]∧Tree_Drop.f O k p r e=some (O.zE,false,r,p)) ∨
      (∃ y r' p',m=[y]∧Tree_Drop.f O k p r e=some (y,true,r',p')∧Gr S lt G p' r' (a++b) c B)):=by
  obtain ⟨t,hP,hr,rfl⟩:=h.ex
  have hll:=Tr.len_toList t
  obtain ⟨a,m,b,hcut,hres⟩:=drop_ok ok hk hP e k (by omega) hr hP.ld h.sorted h.good (by omega)
  refine ⟨a,m,b,hcut,?_⟩
  unfold Tree_Drop.f Tree_drop.f
  rcases hres with ⟨h1,h3⟩ | ⟨y,r',p',t',x0,h1,h3,h4,h5⟩
  · exact .inl ⟨h1,by rw [h3];rfl⟩
  · refine .inr ⟨y,r',p',h1,by rw [h3];rfl,⟨t',h5.pw.perm ?_,h5.rep,h4⟩,hcut.drop h.sorted,fun x hx=>h.good x ?_,h5.cap.trans h.cap⟩
    · have:=h5.refs.erase x0
      rw [List.erase_cons_head] at this
      exact this.symm
    · rw [hcut.eq];rcases List.mem_append.1 hx with hx | hx <;> simp [hx]
theorem Gr.all (ok:OpsOk O k N G S lt) (hk:N≤k) {p:PN E A} {r:TRef} {l:List E} {c:Int} {B:Nat} (h:Gr S lt G p r l c B) (hN:l.length<N):Tree_All.f O k p r=some l:=by
  obtain ⟨t,hP,hr,rfl⟩:=h.ex
  have hbig:=ok.big
  have hll:=Tr.len_toList t
  unfold Tree_All.f Tree_all.f
  rw [all_ok ok hP k [] (by omega) hr (by simp;omega)];rfl
end
end Go.Proofs.YtgjbibabegabnaaGreat
namespace Go.Proofs.YtgjbibabegabnaaGreat
open Go Go.Proofs.YtgjbibabegabnaaGreat.Sx
abbrev K1:Nat:=1000001
abbrev ltM (a b:TMark):Prop:=a.op.time<b.op.time
theorem okM:OpsOk opsM K1 1000000 (fun _=>True) IsSwell ltM where
  cmp a b:=by
    refine ⟨csgn a.op.time b.op.time,?_,?_⟩
    · show wave_Mark_Compare.f K1 a b=_
      unfold wave_Mark_Compare.f;rw [cmpCompare_eq];rfl
    · unfold csgn ltM
      by_cases h1:a.op.time<b.op.time
      · simp [h1];omega
      · by_cases h2:b.op.time<a.op.time
        · simp [h1,h2]
        · simp [h1,h2]
  sum e _:=markSum K1 (by decide) e
  plus h g _ hN:=swellPlus K1 (by decide) h g hN
  zero:=IsSwell.nil
  irrefl a:=by simp
  trans:=by intro a b c h1 h2;unfold ltM at *;omega
  left:=by intro a b c h1 h2 h3;unfold ltM at *;omega
  right:=by intro a b c h1 h2 h3;unfold ltM at *;omega
  big:=by decide
abbrev GrM:=Gr IsSwell ltM (fun _:TMark=>True)
abbrev ltS (a b:TSlot):Prop:=ilt a.item b.item
abbrev lenS' (s:TSize) (l:List TSlot):Prop:=s=(l.length:Int)
theorem isgn_lt' {a b:TItem}:isgn a b<0↔ilt a b:=by
  unfold isgn
  by_cases h:ilt a b
  · simp [h]
  · by_cases h2:ilt b a <;> simp [h,h2]
theorem isgn_gt' {a b:TItem}:isgn a b>0↔ilt b a:=by
  unfold isgn
  by_cases h:ilt a b
  · have : ¬ ilt b a:=by unfold ilt at *;omega
    simp [h,this]
  · by_cases h2:ilt b a <;> simp [h,h2]
theorem slotCompare_eq (a b:TSlot):shelf_Slot_Compare.f K1 a b=some (isgn a.item b.item):=by
  unfold shelf_Slot_Compare.f;rw [itemCompare_eq K1 (by decide)];rfl
theorem okS:OpsOk opsS K1 1000000 (fun _=>True) lenS' ltS where
  cmp a b:=⟨isgn a.item b.item,slotCompare_eq a b,isgn_lt',isgn_gt'⟩
  sum e _:=⟨1,rfl,rfl⟩
  plus:=by
    rintro a b l r rfl rfl _ hN
    refine ⟨_,rfl,?_⟩
    show w64 ((l.length:Int)+(r.length:Int))=_
    rw [List.length_append] at hN
    rw [w64_id (by omega) (by omega),List.length_append];omega
  zero:=rfl
  irrefl a:=ilt_irrefl _
  trans:=by intro a b c h1 h2;unfold ltS ilt at *;omega
  left:=by intro a b c h1 h2 h3;unfold ltS ilt at *;omega
  right:=by intro a b c h1 h2 h3;unfold ltS ilt at *;omega
  big:=by decide
abbrev GrS:=Gr lenS' ltS (fun _:TSlot=>True)
theorem Gr.mono {E A:Type} {S:A→List E→Prop} {lt:E→E→Prop} {G:E→Prop} {p:PN E A} {r:TRef} {l:List E} {c:Int} {B B':Nat} (h:Gr S lt G p r l c B) (hB:B≤B') (hs:B'<4294967295):Gr S lt G p r l c B':=by
  obtain ⟨⟨t,h1,h2⟩,h3,h4,h5⟩:=h
  exact ⟨⟨t,h1.mono hB hs,h2⟩,h3,h4,h5⟩
def clampN (m:List TMark) (p:Int):Nat:=(min (max p 0) (m.length:Int)).toNat
theorem clampN_le (m:List TMark) (p:Int):clampN m p≤m.length:=by unfold clampN;omega
theorem clampN_nat {m:List TMark} {i:Nat} (h:i≤m.length):clampN m (i:Int)=i:=by unfold clampN;omega
theorem clampN_eq (m:List TMark) (p:Int):gmin (gmax p 0) (m.length:Int)=(clampN m p:Int):=by
  unfold clampN gmin gmax;split <;> split <;> omega
theorem seg_nat {α:Type} (m:List α) (i j:Nat):seg m (i:Int) (j:Int)=(m.take j).drop i:=by
  unfold seg
  rw [Int.toNat_natCast,Int.toNat_natCast]
theorem seg_clamp (m:List TMark) (p:Int):seg m 0 p=seg m 0 (clampN m p:Int):=by
  unfold seg clampN
  simp only [Int.toNat_natCast]
  by_cases h:p≤m.length
  · rw [show (min (max p 0) (m.length:Int)).toNat=p.toNat by omega]
  · rw [List.take_of_length_le (by omega),List.take_of_length_le (by omega)]
section
variable {p:PN TMark TSwell} {r:TRef} {m:List TMark} {c:Int} {B:Nat}
theorem between_ok' (h:GrM p r m c B) (hl:m.length<100000) (i j:Nat) : ∃ s,Tree_Between.f opsM K1 p r (i:Int) (j:Int)=some s∧IsSwell s ((m.take j).drop i):=by
  obtain ⟨s,s1,s2⟩:=h.between okM (by decide) (i:Int) (j:Int) (by omega)
  rw [seg_nat] at s2
  exact ⟨s,s1,s2⟩
theorem len_ok (h:GrM p r m c B):Tree_Len.f opsM K1 p r=some (m.length:Int):=h.len okM
theorem height_ok (h:GrM p r m c B) (hl:m.length<100000) (i base:Int):bridge_Height.f K1 p r i base=some (w64 (base+((wts m).take (clampN m i)).sum)):=by
  obtain ⟨s,s1,s2⟩:=h.between okM (by decide) 0 i (by omega)
  rw [seg_clamp] at s2
  have e':seg m 0 (clampN m i:Int)=(m.take (clampN m i)).drop 0:=seg_nat m 0 (clampN m i)
  rw [e',List.drop_zero] at s2
  unfold bridge_Height.f
  rw [s1]
  simp only [Option.bind_some,s2.weight,tideF]
  congr 3
  simp [List.map_take,wts]
end
section
variable {E:Type} {P:List E→List E→Bool}
theorem first_spec {L : List E} {H : Nat → Int} (hP : ∀ i x, L[i]? = some x → P (L.take i) [x] = decide (H (i + 1) ≤ 0)) (s : Int) : ∀ n, n ≤ L.length →
    (firstF P [] (L.take n) s = -1∧∀ i:Nat,s≤i→i<n→¬ H (i+1)≤0)∨∃ i:Nat,firstF P [] (L.take n) s=i∧s≤i∧i<n∧H (i+1)≤0∧∀ j:Nat,s≤j→j<i→¬ H (j+1)≤0
  | 0, _ => .inl ⟨by simp [firstF], fun i _ h => by omega⟩
  | n + 1, h => by
    obtain ⟨x,hx,_⟩:=drop_cons (l:=L) (i:=n) (by omega)
    have ht:L.take (n+1)=L.take n++[x]:=by rw [List.take_add_one,hx];rfl
    have happ:=firstF_append (P:=P) [] (L.take n) [x] s
    have hlen:(L.take n).length=n:=by rw [List.length_take];omega
    rw [← ht,hlen,List.nil_append] at happ
    have h1:firstF P (L.take n) [x] (s - n)=if s - n≤0∧P (L.take n) [x]=true then 0 else -1:=by rw [firstF];simp [firstF]
    rw [h1,hP n x hx] at happ
    rcases first_spec hP s n (by omega) with ⟨a1,a2⟩ | ⟨i,a1,a2,a3,a4,a5⟩
    · rw [a1,if_neg (by omega)] at happ
      by_cases hc:s - n≤0∧decide (H (n+1)≤0)=true
      · rw [if_pos hc,if_pos (by omega)] at happ
        exact .inr ⟨n,by omega,by omega,by omega,of_decide_eq_true hc.2,a2⟩
      · rw [if_neg hc,if_neg (by omega)] at happ
        refine .inl ⟨happ,fun i h1 h2 h3=>?_⟩
        by_cases hi:i=n
        · subst hi;exact hc ⟨by omega,decide_eq_true h3⟩
        · exact a2 i h1 (by omega) h3
    · rw [a1,if_pos (by omega)] at happ
      exact .inr ⟨i,happ,a2,by omega,a4,a5⟩
theorem last_spec {L : List E} {H : Nat → Int} (hP : ∀ i x, L[i]? = some x → P (L.take i) [x] = decide (H (i + 1) ≤ 0)) (s : Int) : ∀ n, n ≤ L.length →
    (lastF P [] (L.take n) s = -1∧∀ i:Nat,(i:Int)<s→i<n→¬ H (i+1)≤0)∨∃ i:Nat,lastF P [] (L.take n) s=i∧(i:Int)<s∧i<n∧H (i+1)≤0∧∀ j:Nat,i<j→(j:Int)<s→j<n→¬ H (j+1)≤0
  | 0, _ => .inl ⟨by simp [lastF], fun i _ h => by omega⟩
  | n + 1, h => by
    obtain ⟨x,hx,_⟩:=drop_cons (l:=L) (i:=n) (by omega)
    have ht:L.take (n+1)=L.take n++[x]:=by rw [List.take_add_one,hx];rfl
    have happ:=lastF_append (P:=P) [] (L.take n) [x] s
    have hlen:(L.take n).length=n:=by rw [List.length_take];omega
    rw [← ht,hlen,List.nil_append] at happ
    have h1:lastF P (L.take n) [x] (s - n)=if s - n>0∧P (L.take n) [x]=true then 0 else -1:=by rw [lastF];simp [lastF]
    rw [h1,hP n x hx] at happ
    by_cases hc:s - n>0∧decide (H (n+1)≤0)=true
    · rw [if_pos hc,if_pos (by omega)] at happ
      exact .inr ⟨n,by omega,by omega,by omega,of_decide_eq_true hc.2,fun j h1 h2 h3=>by omega⟩
    · rw [if_neg hc,if_neg (by omega)] at happ
      have hno:(n:Int)<s→¬ H (n+1)≤0:=fun h1 h3=>hc ⟨by omega,decide_eq_true h3⟩
      rcases last_spec hP s n (by omega) with ⟨a1,a2⟩ | ⟨i,a1,a2,a3,a4,a5⟩
      · refine .inl ⟨by rw [happ,a1],fun i g1 g2=>?_⟩
        by_cases hi:i=n
        · subst hi;exact hno g1
        · exact a2 i g1 (by omega)
      · refine .inr ⟨i,by rw [happ,a1],a2,by omega,a4,fun j g1 g2 g3=>?_⟩
        by_cases hj:j=n
        · subst hj;exact hno g2
        · exact a5 j g1 g2 (by omega)
end
def fallB (base:Int) (l u:List TMark):Bool:=decide (u≠[])&&decide (base+(l.map mwt).sum+lowF (u.map mwt)≤0)
abbrev SmallB (base:Int):Prop:=-1099511627776≤base∧base≤1099511627776
theorem fall_ok {base:Int} (hb:SmallB base):PredOk 1000000 (fun _=>True) IsSwell (fallB base) (fun a b=>bridge_low_1.f K1 a b base) where
  run:=by
    intro a b l u hl hu _ hN
    have h1:=sum_bound (small_wt l)
    have h2:=low_bound (small_wt u)
    simp only [List.length_append] at hN
    simp only [List.length_map] at h1 h2
    unfold bridge_low_1.f fallB
    rw [hl.weight,hu.weight]
    unfold SmallB at hb
    cases u with
    | nil => simp [tideF]
    | cons x v =>
      have e0:decide ((tideF ((x::v).map mwt)).n>0)=true:=by simp [tideF]
      simp only [List.length_cons] at hN h2
      have hw:w64 (w64 (base+(tideF (l.map mwt)).sum)+(tideF ((x::v).map mwt)).low)=base+(l.map mwt).sum+lowF ((x::v).map mwt):=by
        have e1:w64 (base+(tideF (l.map mwt)).sum)=base+(l.map mwt).sum:=w64_id (x:=base+(l.map mwt).sum) (by omega) (by omega)
        rw [e1]
        exact w64_id (x:=base+(l.map mwt).sum+lowF ((x::v).map mwt)) (by omega) (by omega)
      rw [e0]
      simp only [cond_true,hw]
      simp
  nil l:=by simp [fallB]
  app l m n:=by
    unfold fallB
    by_cases hm:m=[]
    · subst hm;simp
    · by_cases hn:n=[]
      · subst hn;simp
      · have h1 : lowF ((m ++ n).map mwt) = min (lowF (m.map mwt)) ((m.map mwt).sum + lowF (n.map mwt)) := by
          rw [List.map_append,lowF_append _ _ (by simpa using hm) (by simpa using hn)]
        have h2:((l++m).map mwt).sum=(l.map mwt).sum+(m.map mwt).sum:=by simp
        rw [h1,h2]
        have h3:m++n≠[]:=by simp [hm]
        simp only [h3,hm,hn,ne_eq,not_false_eq_true,decide_true,Bool.true_and]
        rw [← Bool.decide_or]
        congr 1
        apply propext
        omega
theorem fall_at (m:List TMark) (base:Int) (i:Nat) (x:TMark) (hx:m[i]? = some x):fallB base (m.take i) [x]=decide (hgt m base (i+1)≤0):=by
  unfold fallB hgt
  have ht:(wts m).take (i+1)=(m.take i).map mwt++[mwt x]:=by
    rw [List.map_take,List.take_add_one]
    simp only [wts,List.getElem?_map,hx]
    rfl
  rw [ht,List.sum_append]
  simp [lowF,Int.add_assoc]
theorem hgt_bound {m:List TMark} (hm:m.length<100000) {base:Int} (hb:SmallB base) (n:Nat) : -4611686018427387904≤hgt m base n∧hgt m base n≤4611686018427387904:=by
  have h:=sum_bound (ns:=(wts m).take n) ((small_wt m).take n)
  have h2:((wts m).take n).length≤m.length:=by simp [wts];omega
  unfold hgt SmallB at *
  generalize (wts m).take n=q at *
  omega
section
variable {p:PN TMark TSwell} {r:TRef} {m:List TMark} {c:Int} {B:Nat}
theorem height_at (h:GrM p r m c B) (hl:m.length<100000) {base:Int} (hb:SmallB base) (n:Nat) (hn:n≤m.length):bridge_Height.f K1 p r (n:Int) base=some (hgt m base n):=by
  have hc:clampN m (n:Int)=n:=by unfold clampN;omega
  have hb2:=hgt_bound hl hb n
  rw [height_ok h hl,hc]
  congr 1
  exact w64_id (x:=hgt m base n) (by omega) (by omega)
theorem next_ok (h:GrM p r m c B) (hl:m.length<100000) {base:Int} (hb:SmallB base) (i:Int) : ∃ v,bridge_Next.f K1 p r i base=some v∧IsNext m base (clampN m i) v:=by
  have hc:=clampN_le m i
  have q1:=h.first okM (by decide) (fall_ok hb) (clampN m i:Int) (by omega)
  unfold bridge_Next.f bridge_clamp.f bridge_low.f
  simp only [len_ok h,Option.bind_some,clampN_eq,height_at h hl hb _ hc,q1]
  by_cases h0:hgt m base (clampN m i)≤0
  · simp only [h0,decide_true,cond_true]
    exact ⟨_,rfl,.inr ⟨_,rfl,Nat.le_refl _,hc,h0,fun q h1 h2=>by omega⟩⟩
  · simp only [h0,decide_false,cond_false]
    have hs:=first_spec (L:=m) (H:=hgt m base) (fall_at m base) (clampN m i:Int) m.length (by simp)
    rw [List.take_of_length_le (by simp)] at hs
    rcases hs with ⟨a1,a2⟩ | ⟨j,a1,a2,a3,a4,a5⟩
    · rw [a1]
      refine ⟨-1,rfl,.inl ⟨rfl,fun j h1 h2=>?_⟩⟩
      by_cases hj:j=clampN m i
      · subst hj;exact h0
      · obtain ⟨q,rfl⟩ : ∃ q,j=q+1:=⟨j - 1,by omega⟩
        exact a2 q (by omega) (by omega)
    · rw [a1]
      have e0:decide ((j:Int)≥0)=true:=by simp
      simp only [e0,cond_true]
      rw [w64_succ (by omega)]
      refine ⟨_,rfl,.inr ⟨j+1,rfl,by omega,by omega,a4,fun q h1 h2=>?_⟩⟩
      by_cases hq:q=clampN m i
      · subst hq;exact h0
      · obtain ⟨z,rfl⟩ : ∃ z,q=z+1:=⟨q - 1,by omega⟩
        exact a5 z (by omega) (by omega)
theorem prior_ok (h:GrM p r m c B) (hl:m.length<100000) {base:Int} (hb:SmallB base) (i:Int) : ∃ v,bridge_Prior.f K1 p r i base=some v∧IsPrior m base (clampN m i) v:=by
  have hc:=clampN_le m i
  have q1:=h.last okM (by decide) (fall_ok hb) (clampN m i:Int) (by omega)
  have h00:hgt m base 0=base:=by simp [hgt]
  unfold bridge_Prior.f bridge_clamp.f bridge_low.f
  simp only [len_ok h,Option.bind_some,clampN_eq,q1]
  have hs:=last_spec (L:=m) (H:=hgt m base) (fall_at m base) (clampN m i:Int) m.length (by simp)
  rw [List.take_of_length_le (by simp)] at hs
  rcases hs with ⟨a1,a2⟩ | ⟨j,a1,a2,a3,a4,a5⟩
  · rw [a1]
    have hpos : ∀ q,0<q→q≤clampN m i→¬ hgt m base q≤0:=fun q h1 h2=>by
      obtain ⟨z,rfl⟩ : ∃ z,q=z+1:=⟨q - 1,by omega⟩
      exact a2 z (by omega) (by omega)
    have e0:decide ((-1:Int)≥0)=false:=rfl
    simp only [e0,cond_false]
    by_cases hb0:base≤0
    · simp only [hb0,decide_true,cond_true]
      exact ⟨_,rfl,.inr ⟨0,rfl,by omega,by rw [h00];exact hb0,fun q h1 h2=>hpos q h1 h2⟩⟩
    · simp only [hb0,decide_false,cond_false]
      refine ⟨-1,rfl,.inl ⟨rfl,fun j hj=>?_⟩⟩
      by_cases hj0:j=0
      · subst hj0;rw [h00];exact hb0
      · exact hpos j (by omega) hj
  · rw [a1]
    have e0:decide ((j:Int)≥0)=true:=by simp
    simp only [e0,cond_true]
    rw [w64_succ (by omega)]
    refine ⟨_,rfl,.inr ⟨j+1,rfl,by omega,a4,fun q h1 h2=>?_⟩⟩
    obtain ⟨z,rfl⟩ : ∃ z,q=z+1:=⟨q - 1,by omega⟩
    exact a5 z (by omega) (by omega) (by omega)
end
end Go.Proofs.YtgjbibabegabnaaGreat
namespace Go.Proofs.YtgjbibabegabnaaGreat
open Go Go.Proofs.YtgjbibabegabnaaGreat.Sx
def keyM (t:Int):TMark:=⟨⟨t,false,zTItem⟩,false,zTTook⟩
theorem key_ok (t:Int):wave_Key.f K1 t=some (keyM t):=rfl
def slot (x:TItem):TSlot:=⟨x,false,0⟩
abbrev sls (l:List TItem):List TSlot:=l.map slot
theorem of_ok (x:TItem):shelf_Of.f K1 x=some (slot x):=rfl
structure CutM (t:Int) (m A M D:List TMark):Prop where
  eq:m=A++(M++D)
  la : ∀ x∈A,x.op.time<t
  lb : ∀ x∈D,t<x.op.time
  lm:M=[]∨∃ y,M=[y]∧y.op.time=t
theorem CutM.of {e:TMark} {m a mm b:List TMark} (h:Cut ltM e m a mm b):CutM e.op.time m a mm b :=
  ⟨h.eq,h.la,h.lb,h.lm.imp id (fun ⟨y,h1,h2,h3⟩=>⟨y,h1,by unfold ltM at h2 h3;omega⟩)⟩
theorem CutM.fA {t:Int} {m A M D:List TMark} (h:CutM t m A M D):m.filter (fun x=>decide (x.op.time<t))=A:=by
  rw [h.eq,List.filter_append,List.filter_append]
  have h1:A.filter (fun x=>decide (x.op.time<t))=A:=List.filter_eq_self.2 (fun x hx=>by simpa using h.la x hx)
  have h2:D.filter (fun x=>decide (x.op.time<t))=[]:=List.filter_eq_nil_iff.2 (fun x hx=>by have:=h.lb x hx;simp;omega)
  have h3:M.filter (fun x=>decide (x.op.time<t))=[]:=List.filter_eq_nil_iff.2 (fun x hx=>by
    rcases h.lm with h4 | ⟨y,h4,h5⟩
    · subst h4;cases hx
    · subst h4;rw [List.mem_singleton.1 hx];simp;omega)
  rw [h1,h2,h3];simp
theorem CutM.fD {t:Int} {m A M D:List TMark} (h:CutM t m A M D):m.filter (fun x=>decide (t<x.op.time))=D:=by
  rw [h.eq,List.filter_append,List.filter_append]
  have h1:A.filter (fun x=>decide (t<x.op.time))=[]:=List.filter_eq_nil_iff.2 (fun x hx=>by have:=h.la x hx;simp;omega)
  have h2:D.filter (fun x=>decide (t<x.op.time))=D:=List.filter_eq_self.2 (fun x hx=>by simpa using h.lb x hx)
  have h3:M.filter (fun x=>decide (t<x.op.time))=[]:=List.filter_eq_nil_iff.2 (fun x hx=>by
    rcases h.lm with h4 | ⟨y,h4,h5⟩
    · subst h4;cases hx
    · subst h4;rw [List.mem_singleton.1 hx];simp;omega)
  rw [h1,h2,h3];simp
theorem CutM.unique {t:Int} {m A M D A' M' D':List TMark} (h:CutM t m A M D) (g:CutM t m A' M' D'):A=A'∧M=M'∧D=D':=by
  have e1:A=A':=h.fA.symm.trans g.fA
  have e2:D=D':=h.fD.symm.trans g.fD
  subst e1 e2
  have:=h.eq.symm.trans g.eq
  exact ⟨rfl,List.append_cancel_right (List.append_cancel_left this),rfl⟩
theorem CutM.mem {t:Int} {m A M D:List TMark} (h:CutM t m A M D) {x:TMark} (hx:x∈m) (ht:x.op.time=t):M=[x]:=by
  rw [h.eq] at hx
  rcases List.mem_append.1 hx with hx | hx
  · have:=h.la x hx;omega
  · rcases List.mem_append.1 hx with hx | hx
    · rcases h.lm with h1 | ⟨y,h1,h2⟩
      · subst h1;cases hx
      · subst h1;rw [List.mem_singleton.1 hx]
    · have:=h.lb x hx;omega
theorem CutM.none {t:Int} {m A M D:List TMark} (h:CutM t m A M D) (hn : ∀ x∈m,x.op.time≠t):M=[]:=by
  rcases h.lm with h1 | ⟨y,h1,h2⟩
  · exact h1
  · exact absurd h2 (hn y (by rw [h.eq,h1];simp))
def fnd:List TMark→TMark×Bool
  | y :: _ => (y, true)
  | [] => (zTMark, false)
section
variable {p:PN TMark TSwell} {r:TRef} {m A M D:List TMark} {c:Int} {B:Nat} {t:Int}
theorem mcut (h:GrM p r m c B) (hl:m.length<100000) (t:Int) : ∃ A M D,CutM t m A M D:=by
  obtain ⟨a,mm,b,h1,_⟩:=h.find okM (by decide) (keyM t) (by omega)
  exact ⟨a,mm,b,.of h1⟩
theorem mfind (h:GrM p r m c B) (hl:m.length<100000) (hc:CutM t m A M D):Tree_Find.f opsM K1 p r (keyM t)=some (fnd M):=by
  obtain ⟨a,mm,b,h1,h2⟩:=h.find okM (by decide) (keyM t) (by omega)
  obtain ⟨rfl,rfl,rfl⟩:=hc.unique (.of h1)
  rw [h2];cases M <;> rfl
theorem mrank (h:GrM p r m c B) (hl:m.length<100000) (hc:CutM t m A M D):Tree_Rank.f opsM K1 p r (keyM t)=some (A.length:Int):=by
  obtain ⟨a,mm,b,h1,h2⟩:=h.rank okM (by decide) (keyM t) (by omega)
  obtain ⟨rfl,rfl,rfl⟩:=hc.unique (.of h1)
  exact h2
theorem mput (h:GrM p r m c B) (hl:m.length<100000) (hB:B<1000000) (x:TMark) (hc:CutM x.op.time m A M D) (hcap:M=[]→(m.length:Int)≠c) : ∃ r' p',Tree_Put.f opsM K1 p r x=some (true,r',p')∧GrM p' r' (A++x::D) c (B+1):=by
  obtain ⟨a,mm,b,h1,h2⟩:=h.put okM (by decide) x trivial (by omega) (by omega)
  obtain ⟨rfl,rfl,rfl⟩:=hc.unique (.of h1)
  rcases h2 with ⟨g1,g2,_⟩ | ⟨r',p',_,g2,g3⟩
  · exact absurd g2 (hcap g1)
  · exact ⟨r',p',g2,g3⟩
theorem mdrop (h:GrM p r m c B) (hl:m.length<100000) {y:TMark} (hc:CutM t m A [y] D) : ∃ r' p',Tree_Drop.f opsM K1 p r (keyM t)=some (y,true,r',p')∧GrM p' r' (A++D) c B:=by
  obtain ⟨a,mm,b,h1,h2⟩:=h.drop okM (by decide) (keyM t) (by omega)
  obtain ⟨rfl,e,rfl⟩:=hc.unique (.of h1)
  rcases h2 with ⟨g1,_⟩ | ⟨y',r',p',g1,g2,g3⟩
  · rw [g1] at e;cases e
  · rw [g1] at e;cases e
    exact ⟨r',p',g2,g3⟩
end
section
variable {p:PN TSlot TSize} {r:TRef} {T:List TSlot} {c:Int} {B:Nat}
theorem scut_item {s:TSlot} {a mm b:List TSlot} (h:Cut ltS s T a mm b):(mm=[]∧∀ s'∈T,s'.item≠s.item)∨∃ y,mm=[y]∧y.item=s.item:=by
  have hne : ∀ x,ltS x s∨ltS s x→x.item≠s.item:=fun x hx e=>by
    unfold ltS at hx;rw [e] at hx;exact hx.elim (ilt_irrefl _) (ilt_irrefl _)
  rcases h.lm with h1 | ⟨y,h1,h2,h3⟩
  · refine .inl ⟨h1,fun s' hs=>?_⟩
    rw [h.eq,h1] at hs
    rcases List.mem_append.1 hs with hs | hs
    · exact hne s' (.inl (h.la s' hs))
    · exact hne s' (.inr (h.lb s' hs))
  · exact .inr ⟨y,h1,item_eq h3 h2⟩
theorem sfind (h:GrS p r T c B) (hl:T.length<100000) (x:TItem) : ∃ s b,Tree_Find.f opsS K1 p r (slot x)=some (s,b)∧((b=true∧s∈T∧s.item=x)∨(b=false∧∀ s'∈T,s'.item≠x)):=by
  obtain ⟨a,mm,b,h1,h2⟩:=h.find okS (by decide) (slot x) (by omega)
  rcases scut_item h1 with ⟨rfl,h3⟩ | ⟨y,rfl,h3⟩
  · exact ⟨_,_,h2,.inr ⟨rfl,h3⟩⟩
  · exact ⟨_,_,h2,.inl ⟨rfl,by rw [h1.eq];simp,h3⟩⟩
theorem sput (h:GrS p r T c B) (hl:T.length<100000) (hB:B<1000000) (s:TSlot) (hn : ∀ s'∈T,s'.item≠s.item) (hcap:(T.length:Int)≠c) : ∃ r' p' T',Tree_Put.f opsS K1 p r s=some (true,r',p')∧GrS p' r' T' c (B+1)∧T'.Perm (s::T):=by
  obtain ⟨a,mm,b,h1,h2⟩:=h.put okS (by decide) s trivial (by omega) (by omega)
  have hm:mm=[]:=by
    rcases scut_item h1 with ⟨h3,_⟩ | ⟨y,h3,h4⟩
    · exact h3
    · exact absurd h4 (hn y (by rw [h1.eq,h3];simp))
  rcases h2 with ⟨_,g2,_⟩ | ⟨r',p',_,g2,g3⟩
  · exact absurd g2 hcap
  · refine ⟨r',p',_,g2,g3,?_⟩
    have e:=h1.eq;rw [hm,List.nil_append] at e;rw [e]
    exact List.perm_middle
theorem sdrop (h:GrS p r T c B) (hl:T.length<100000) (x:TItem) : ∃ e b r' p' T',Tree_Drop.f opsS K1 p r (slot x)=some (e,b,r',p')∧GrS p' r' T' c B∧((∃ s,s.item=x∧T.Perm (s::T'))∨((∀ s∈T,s.item≠x)∧T'=T)):=by
  obtain ⟨a,mm,b,h1,h2⟩:=h.drop okS (by decide) (slot x) (by omega)
  rcases h2 with ⟨g1,g2⟩ | ⟨y,r',p',g1,g2,g3⟩
  · refine ⟨_,_,r,p,T,g2,h,.inr ⟨?_,rfl⟩⟩
    rcases scut_item h1 with ⟨_,h3⟩ | ⟨y,h3,_⟩
    · exact h3
    · rw [g1] at h3;cases h3
  · refine ⟨_,_,r',p',a++b,g2,g3,.inl ⟨y,?_,?_⟩⟩
    · rcases scut_item h1 with ⟨h3,_⟩ | ⟨y',h3,h4⟩
      · rw [g1] at h3;cases h3
      · rw [g1] at h3;cases h3;exact h4
    · rw [h1.eq,g1];exact List.perm_middle
end
def slotsOf (m:List TMark):List TSlot:=(m.filter (·.op.insert)).map (fun x=>⟨x.op.item,true,x.op.time⟩)
theorem slotsOf_app (a b:List TMark):slotsOf (a++b)=slotsOf a++slotsOf b:=by simp [slotsOf]
theorem mem_slotsOf {m:List TMark} {s:TSlot}:s∈slotsOf m↔∃ x∈m,x.op.insert=true∧s=⟨x.op.item,true,x.op.time⟩:=by
  unfold slotsOf
  simp only [List.mem_map,List.mem_filter]
  constructor
  · rintro ⟨x,⟨h1,h2⟩,rfl⟩;exact ⟨x,h1,h2,rfl⟩
  · rintro ⟨x,h1,h2,rfl⟩;exact ⟨x,⟨h1,h2⟩,rfl⟩
theorem Dist.eq {m:List TMark} (h:Dist m) {x y:TMark} (hx:x∈m) (hy:y∈m) (h1:x.op.insert=true) (h2:y.op.insert=true) (h3:x.op.item=y.op.item):x=y:=by
  obtain ⟨i,hi⟩:=List.mem_iff_getElem?.1 hx
  obtain ⟨j,hj⟩:=List.mem_iff_getElem?.1 hy
  have:=h i j x y hi hj h1 h2 h3
  subst this;rw [hi] at hj;cases hj;rfl
theorem len_split (m:List TMark):(hereI m).length+(goneI m).length≤m.length:=by
  induction m with
  | nil => simp [hereI, goneI]
  | cons x m ih =>
    have h1:=hereI_app [x] m;have h2:=goneI_app [x] m
    rw [List.singleton_append] at h1 h2
    rw [h1,h2]
    simp only [List.length_append,List.length_cons]
    have:(hereI [x]).length+(goneI [x]).length≤1:=by
      unfold hereI goneI
      cases hi:x.op.insert <;> cases hh:x.here <;> simp [hi,hh]
    omega
theorem len_slots (m:List TMark):(slotsOf m).length≤m.length:=by
  unfold slotsOf;rw [List.length_map];exact List.length_filter_le ..
structure QRep (q:TQueue) (m:List TMark) (c:Int) (B:Nat):Prop where
  cap:q.capacity=c
  marks:GrM q.marks.p q.marks.r m c B
  pres : ∃ T,GrS q.present.p q.present.r T c B∧T.Perm (sls (hereI m))
  gone : ∃ T,GrS q.gone.p q.gone.r T c B∧T.Perm (sls (goneI m))
  times : ∃ T,GrS q.times.p q.times.r T c B∧T.Perm (slotsOf m)
  dist:Dist m
  len:(m.length:Int)≤c
  lim:m.length≤100
  bnd:B<900000
  plain : ∀ x∈m,x.took=zTTook∧(x.op.insert=false→x.here=false∧x.op.item=zTItem)
theorem turnM_mid {A D:List TMark} {x:TMark} (hd:Dist (A++x::D)) (hi:x.op.insert=true) (h:Bool):turnM x.op.item h (A++x::D)=A++⟨x.op,h,x.took⟩::D:=by
  apply List.ext_getElem?
  intro i
  rw [turnM_get]
  by_cases e:i=A.length
  · subst e
    rw [get_mid,get_mid,Option.map_some]
    unfold turnF;rw [if_pos ⟨hi,rfl⟩]
  · obtain ⟨q,rfl⟩:=PQ.sh_ex e
    rw [get_sh,get_sh]
    cases hq:(A++D)[q]? with
    | none => rfl
    | some y =>
      rw [Option.map_some]
      unfold turnF;rw [if_neg]
      rintro ⟨h3,h4⟩
      exact e (hd _ A.length y x (by rw [get_sh];exact hq) (get_mid A D x) h3 hi h4)
theorem hereI_mid (A D:List TMark) (x:TMark):hereI (A++x::D)=hereI A++(hereI [x]++hereI D):=by
  rw [hereI_app,← List.singleton_append (l:=D),hereI_app]
theorem goneI_mid (A D:List TMark) (x:TMark):goneI (A++x::D)=goneI A++(goneI [x]++goneI D):=by
  rw [goneI_app,← List.singleton_append (l:=D),goneI_app]
theorem slotsOf_mid (A D:List TMark) (x:TMark):slotsOf (A++x::D)=slotsOf A++(slotsOf [x]++slotsOf D):=by
  rw [slotsOf_app,← List.singleton_append (l:=D),slotsOf_app]
theorem one_S {x:TMark} (h:isS x):hereI [x]=[x.op.item]∧goneI [x]=[]:=by simp [hereI,goneI,h.1,h.2]
theorem one_G {x:TMark} (h:isG x):hereI [x]=[]∧goneI [x]=[x.op.item]:=by simp [hereI,goneI,h.1,h.2]
theorem one_D {x:TMark} (h:x.op.insert=false):hereI [x]=[]∧goneI [x]=[]∧slotsOf [x]=[]:=by simp [hereI,goneI,slotsOf,h]
theorem one_I {x:TMark} (h:x.op.insert=true):slotsOf [x]=[⟨x.op.item,true,x.op.time⟩]:=by simp [slotsOf,h]
theorem sls_item {l:List TItem} {s:TSlot} (h:s∈sls l):s=slot s.item∧s.item∈l:=by
  obtain ⟨y,h1,rfl⟩:=List.mem_map.1 h
  exact ⟨rfl,h1⟩
theorem perm_less {T T':List TSlot} {l l':List TItem} {x:TItem} {s:TSlot} (h1:T.Perm (sls l)) (h2:l.Perm (x::l')) (h3:T.Perm (s::T')) (h4:s.item=x):T'.Perm (sls l'):=by
  have hs:s∈sls l:=h1.mem_iff.1 (h3.mem_iff.2 List.mem_cons_self)
  have e:s=slot x:=by rw [← h4];exact (sls_item hs).1
  subst e
  have:(slot x::T').Perm (slot x::sls l'):=h3.symm.trans (h1.trans (h2.map slot))
  exact this.cons_inv
theorem not_here {m:List TMark} (hd:Dist m) {x:TMark} (hx:x∈m) (hi:x.op.insert=true) (hh:x.here=false):x.op.item∉hereI m:=fun h=>by
  obtain ⟨i,y,h1,h2,h3⟩:=mem_hereI.1 h
  have:=hd.eq (List.mem_of_getElem? h1) hx h2.1 hi h3
  subst this;exact absurd (hh.symm.trans h2.2) (by decide)
theorem not_gone {m:List TMark} (hd:Dist m) {x:TMark} (hx:x∈m) (hi:x.op.insert=true) (hh:x.here=true):x.op.item∉goneI m:=fun h=>by
  obtain ⟨i,y,h1,h2,h3⟩:=mem_goneI.1 h
  have:=hd.eq (List.mem_of_getElem? h1) hx h2.1 hi h3
  subst this;exact absurd (hh.symm.trans h2.2) (by decide)
theorem turn_ok {q : TQueue} {m : List TMark} {c : Int} {B : Nat} (h : QRep q m c B) {x : TMark} (hx : x ∈ m) (hi : x.op.insert = true) {hh : Bool} (hf : x.here = !hh) (hb9 : B + 1 < 900000) :
    ∃ q',partial_Queue_turn.f K1 q x.op.item hh=some q'∧QRep q' (turnM x.op.item hh m) c (B+1)∧q'.excess=q.excess:=by
  obtain ⟨Tt,t1,t2⟩:=h.times
  obtain ⟨Tp,p1,p2⟩:=h.pres
  obtain ⟨Tg,g1,g2⟩:=h.gone
  have hlim:=h.lim;have hbnd:=h.bnd;have hlen:=h.len
  have ls:=len_split m
  have lt:Tt.length≤m.length:=by rw [t2.length_eq];exact len_slots m
  have lp:Tp.length=(hereI m).length:=by rw [p2.length_eq];simp
  have lg:Tg.length=(goneI m).length:=by rw [g2.length_eq];simp
  -- the time
  obtain ⟨s,b,f1,f2⟩:=sfind t1 (by omega) x.op.item
  have hs0:(⟨x.op.item,true,x.op.time⟩:TSlot)∈Tt:=t2.mem_iff.2 (mem_slotsOf.2 ⟨x,hx,hi,rfl⟩)
  have hs:s.time=x.op.time:=by
    rcases f2 with ⟨_,h1,h2⟩ | ⟨_,h1⟩
    · obtain ⟨y,y1,y2,rfl⟩:=mem_slotsOf.1 (t2.mem_iff.1 h1)
      rw [h.dist.eq y1 hx y2 hi h2]
    · exact absurd rfl (h1 _ hs0)
  -- the mark
  obtain ⟨A,M,D,hc⟩:=mcut h.marks (by omega) x.op.time
  have hM:=hc.mem hx rfl
  subst hM
  have hm:m=A++x::D:=hc.eq
  obtain ⟨r1,q1,m1,m2⟩:=mput h.marks (by omega) (by omega) ⟨x.op,hh,x.took⟩ (A:=A) (M:=[x]) (D:=D) hc (fun e=>by cases e)
  have hd:=h.dist
  rw [hm] at hd
  have ht:=turnM_mid hd hi hh
  rw [← hm] at ht
  have hd':Dist (turnM x.op.item hh m):=by
    intro i j a b ha hb h1 h2 h3
    rw [turnM_get] at ha hb
    obtain ⟨a',ha',rfl⟩:=Option.map_eq_some_iff.1 ha
    obtain ⟨b',hb',rfl⟩:=Option.map_eq_some_iff.1 hb
    rw [turnF_op] at h1 h2 h3
    rw [turnF_op] at h3
    exact h.dist i j a' b' ha' hb' h1 h2 h3
  have hsl:slotsOf (turnM x.op.item hh m)=slotsOf m:=by
    rw [ht,hm,slotsOf_mid,slotsOf_mid];rw [one_I hi,one_I (x:=⟨x.op,hh,x.took⟩) hi]
  have hpl : ∀ y∈turnM x.op.item hh m,y.took=zTTook∧(y.op.insert=false→y.here=false∧y.op.item=zTItem):=by
    intro y hy
    obtain ⟨y',h1,rfl⟩:=List.mem_map.1 hy
    have:=h.plain y' h1
    rw [turnF_took,turnF_op]
    refine ⟨this.1,fun h2=>?_⟩
    rw [turnF_del h2];exact this.2 h2
  have hM1:GrM q1 r1 (turnM x.op.item hh m) c (B+1):=by rw [ht];exact m2
  have hlen':=turnM_len x.op.item hh m
  unfold partial_Queue_turn.f
  simp only [of_ok,Option.bind_some,f1,hs,key_ok,mfind h.marks (by omega) hc,fnd,m1]
  cases hh with
  | true =>
    have hG:isG x:=⟨hi,hf⟩
    have hS:isS ⟨x.op,true,x.took⟩:=⟨hi,rfl⟩
    have e1:(goneI m).Perm (x.op.item::goneI (turnM x.op.item true m)):=by
      rw [ht,hm,goneI_mid,goneI_mid,(one_G hG).2,(one_S hS).2];exact List.perm_middle
    have e2:(hereI (turnM x.op.item true m)).Perm (x.op.item::hereI m):=by
      rw [ht,hm,hereI_mid,hereI_mid,(one_G hG).1,(one_S hS).1];exact List.perm_middle
    obtain ⟨e,b,r2,q2,T2,d1,d2,d3⟩:=sdrop g1 (by omega) x.op.item
    have l1:=e1.length_eq
    simp only [List.length_cons] at l1
    obtain ⟨r3,q3,T3,u1,u2,u3⟩:=sput p1 (by omega) (by omega) (slot x.op.item) (fun s' hs' e'=>by
      have:=(sls_item (p2.mem_iff.1 hs')).2
      rw [e'] at this
      exact not_here h.dist hx hi hf this) (by omega)
    simp only [cond_true,d1,Option.bind_some,u1]
    refine ⟨_,rfl,⟨h.cap,hM1,⟨T3,u2,u3.trans ((p2.cons _).trans (e2.map slot).symm)⟩,⟨T2,d2.mono (by omega) (by omega),?_⟩,⟨Tt,t1.mono (by omega) (by omega),hsl▸t2⟩,hd',by omega,by omega,hb9,hpl⟩,rfl⟩
    rcases d3 with ⟨s,s1,s2⟩ | ⟨s1,_⟩
    · exact perm_less g2 e1 s2 s1
    · exact absurd rfl (s1 (slot x.op.item) (g2.mem_iff.2 (List.mem_map_of_mem (e1.mem_iff.2 List.mem_cons_self))))
  | false =>
    have hS:isS x:=⟨hi,hf⟩
    have hG:isG ⟨x.op,false,x.took⟩:=⟨hi,rfl⟩
    have e1:(hereI m).Perm (x.op.item::hereI (turnM x.op.item false m)):=by
      rw [ht,hm,hereI_mid,hereI_mid,(one_G hG).1,(one_S hS).1];exact List.perm_middle
    have e2:(goneI (turnM x.op.item false m)).Perm (x.op.item::goneI m):=by
      rw [ht,hm,goneI_mid,goneI_mid,(one_G hG).2,(one_S hS).2];exact List.perm_middle
    obtain ⟨e,b,r2,q2,T2,d1,d2,d3⟩:=sdrop p1 (by omega) x.op.item
    have l1:=e1.length_eq
    simp only [List.length_cons] at l1
    obtain ⟨r3,q3,T3,u1,u2,u3⟩:=sput g1 (by omega) (by omega) (slot x.op.item) (fun s' hs' e'=>by
      have:=(sls_item (g2.mem_iff.1 hs')).2
      rw [e'] at this
      exact not_gone h.dist hx hi hf this) (by omega)
    simp only [cond_false,d1,Option.bind_some,u1]
    refine ⟨_,rfl,⟨h.cap,hM1,⟨T2,d2.mono (by omega) (by omega),?_⟩,⟨T3,u2,u3.trans ((g2.cons _).trans (e2.map slot).symm)⟩,⟨Tt,t1.mono (by omega) (by omega),hsl▸t2⟩,hd',by omega,by omega,hb9,hpl⟩,rfl⟩
    rcases d3 with ⟨s,s1,s2⟩ | ⟨s1,_⟩
    · exact perm_less p2 e1 s2 s1
    · exact absurd rfl (s1 (slot x.op.item) (p2.mem_iff.2 (List.mem_map_of_mem (e1.mem_iff.2 List.mem_cons_self))))
theorem QRep.exc {q:TQueue} {m:List TMark} {c:Int} {B:Nat} (h:QRep q m c B) (e:Int):QRep ⟨q.capacity,q.marks,q.present,q.gone,q.times,e⟩ m c B:=⟨h.cap,h.marks,h.pres,h.gone,h.times,h.dist,h.len,h.lim,h.bnd,h.plain⟩
theorem wts_len (m:List TMark) : -(m.length:Int)≤(wts m).sum:=by
  induction m with
  | nil => simp [wts]
  | cons x m ih =>
    have : -1≤mwt x:=by unfold mwt;split;split <;> omega;omega
    simp only [wts,List.map_cons,List.sum_cons,List.length_cons] at ih ⊢;omega
theorem cert_small {m:List TMark} {E:Int} (hc:CertM m E):0≤E∧E≤m.length:=by
  have h1:=hc.low 0 (Nat.zero_le _)
  rw [hgt_zero] at h1
  have h2:=hc.fin
  unfold hgt at h2
  rw [List.take_of_length_le (by simp [wts])] at h2
  have:=wts_len m
  omega
theorem best_ok {p:PN TMark TSwell} {r:TRef} {m:List TMark} {c:Int} {B:Nat} (h:GrM p r m c B) (hl:m.length<100000) {b:Nat} (hb:b≤m.length) : ∃ t,bridge_Best.f K1 p r (b:Int)=some t∧IsMax (goneI (m.drop b)) t:=by
  obtain ⟨s,s1,s2⟩:=between_ok' h hl b m.length
  unfold bridge_Best.f bridge_clamp.f
  simp only [len_ok h,Option.bind_some,clampN_eq,clampN_nat hb,s1]
  refine ⟨_,rfl,?_⟩
  have:=s2.gone
  rwa [List.take_of_length_le (Nat.le_refl _)] at this
theorem least_ok {p:PN TMark TSwell} {r:TRef} {m:List TMark} {c:Int} {B:Nat} (h:GrM p r m c B) (hl:m.length<100000) {b:Nat} (hb:b≤m.length) : ∃ t,bridge_Least.f K1 p r (b:Int)=some t∧IsMin (hereI (m.take b)) t:=by
  obtain ⟨s,s1,s2⟩:=between_ok' h hl 0 b
  have s1':Tree_Between.f opsM K1 p r 0 (b:Int)=some s:=s1
  unfold bridge_Least.f bridge_clamp.f
  simp only [len_ok h,Option.bind_some,clampN_eq,clampN_nat hb,s1']
  exact ⟨_,rfl,s2.least⟩
section
variable {q:TQueue} {m:List TMark} {c:Int} {B:Nat} {E:Int}
theorem leave_ok (h : QRep q m c B) (hE : q.excess = E) (h0 : 0 ≤ E ∧ E ≤ 100) {n : Nat} (hn : n ≤ m.length) (hb9 : B + 1 < 900000) : ∃ v, IsNext m E n v ∧ ∀ b : Nat, v = b → b ≤ m.length → ∃ least, IsMin (hereI (m.take b)) least ∧
    ((least.found=false∧partial_Queue_leave.f K1 q (n:Int)=some (⟨[],[]⟩,⟨q.capacity,q.marks,q.present,q.gone,q.times,E+1⟩)) ∨
     (least.found=true∧((∃ x∈m,isS x∧x.op.item=least.item)→∃ q',partial_Queue_leave.f K1 q (n:Int)=some (⟨[],[least.item]⟩,q')∧QRep q' (turnM least.item false m) c (B+1)∧q'.excess=E))):=by
  have hlim:=h.lim
  obtain ⟨v,v1,v2⟩:=next_ok h.marks (by omega) (base:=E) ⟨by omega,by omega⟩ (n:Int)
  rw [clampN_nat hn] at v2
  refine ⟨v,v2,fun b hv hb=>?_⟩
  subst hv
  obtain ⟨t,t1,t2⟩:=least_ok h.marks (by omega) hb
  refine ⟨t,t2,?_⟩
  unfold partial_Queue_leave.f
  simp only [hE,v1,Option.bind_some,t1]
  cases hf:t.found with
  | false =>
    refine .inl ⟨rfl,?_⟩
    have hw:w64 (E+1)=E+1:=w64_id (by omega) (by omega)
    simp only [Bool.not_false,cond_true,hw]
  | true =>
    refine .inr ⟨rfl,?_⟩
    rintro ⟨x,x1,x2,x3⟩
    obtain ⟨q',g1,g2,g3⟩:=turn_ok h x1 x2.1 (hh:=false) x2.2 hb9
    rw [x3] at g1 g2
    simp only [Bool.not_true,cond_false,g1,Option.bind_some]
    exact ⟨q',rfl,g2,by rw [g3,hE]⟩
theorem enter_ok (h : QRep q m c B) (hE : q.excess = E) (h0 : 0 ≤ E ∧ E ≤ 100) {n : Nat} (hn : n ≤ m.length) (hb9 : B + 1 < 900000) : ∃ v, IsPrior m E n v ∧
    (v = -1→partial_Queue_enter.f K1 q (n:Int)=some (⟨[],[]⟩,⟨q.capacity,q.marks,q.present,q.gone,q.times,E - 1⟩)) ∧
    ∀ b:Nat,v=b→b≤m.length→∃ best,IsMax (goneI (m.drop b)) best∧(best.found=true→(∃ x∈m,isG x∧x.op.item=best.item)→∃ q',partial_Queue_enter.f K1 q (n:Int)=some (⟨[best.item],[]⟩,q')∧QRep q' (turnM best.item true m) c (B+1)∧q'.excess=E):=by
  have hlim:=h.lim
  obtain ⟨v,v1,v2⟩:=prior_ok h.marks (by omega) (base:=E) ⟨by omega,by omega⟩ (n:Int)
  rw [clampN_nat hn] at v2
  refine ⟨v,v2,fun hv=>?_,fun b hv hb=>?_⟩
  · subst hv
    unfold partial_Queue_enter.f
    have hw:w64 (E - 1)=E - 1:=w64_id (by omega) (by omega)
    simp only [hE,v1,Option.bind_some,hw]
    rfl
  · subst hv
    obtain ⟨t,t1,t2⟩:=best_ok h.marks (by omega) hb
    refine ⟨t,t2,fun hf=>?_⟩
    rintro ⟨x,x1,x2,x3⟩
    obtain ⟨q',g1,g2,g3⟩:=turn_ok h x1 x2.1 (hh:=true) x2.2 hb9
    rw [x3] at g1 g2
    have e0:decide ((b:Int)<0)=false:=by simp
    unfold partial_Queue_enter.f
    simp only [hE,v1,Option.bind_some,e0,cond_false,t1,hf,Bool.not_true,g1]
    exact ⟨q',rfl,g2,by rw [g3,hE]⟩
end
end Go.Proofs.YtgjbibabegabnaaGreat
namespace Go.Proofs.YtgjbibabegabnaaGreat
open Go Go.Proofs.YtgjbibabegabnaaGreat.Sx
def Chg (ch:TChange) (m m':List TMark):Prop :=
  (ch=⟨[],[]⟩∧(hereI m').Perm (hereI m))∨(∃ y,ch=⟨[y],[]⟩∧(hereI m').Perm (y::hereI m))∨(∃ y,ch=⟨[],[y]⟩∧(hereI m).Perm (y::hereI m'))
structure QOk (q:TQueue) (m:List TMark) (E c:Int) (B:Nat):Prop where
  rep:QRep q m c B
  cert:CertM m E
  exc:q.excess=E
theorem turn_permG {m:List TMark} (hd:Dist m) {x:TMark} (hx:x∈m) (h:isG x):(hereI (turnM x.op.item true m)).Perm (x.op.item::hereI m):=by
  obtain ⟨A,D,rfl⟩:=List.append_of_mem hx
  rw [turnM_mid hd h.1 true,hereI_mid,hereI_mid,(one_G h).1,(one_S (x:=⟨x.op,true,x.took⟩) ⟨h.1,rfl⟩).1];exact List.perm_middle
theorem turn_permS {m:List TMark} (hd:Dist m) {x:TMark} (hx:x∈m) (h:isS x):(hereI m).Perm (x.op.item::hereI (turnM x.op.item false m)):=by
  obtain ⟨A,D,rfl⟩:=List.append_of_mem hx
  rw [turnM_mid hd h.1 false,hereI_mid,hereI_mid,(one_S h).1,(one_G (x:=⟨x.op,false,x.took⟩) ⟨h.1,rfl⟩).1];exact List.perm_middle
theorem dist_ins {A D:List TMark} {x:TMark} (hd:Dist (A++D)) (hn:x.op.insert=true→∀ y∈A++D,y.op.insert=true→y.op.item≠x.op.item):Dist (A++x::D):=by
  intro i j a b ha hb h1 h2 h3
  by_cases ei:i=A.length
  · subst ei
    rw [get_mid] at ha;cases ha
    by_cases ej:j=A.length
    · exact ej.symm
    · obtain ⟨k,rfl⟩:=PQ.sh_ex ej
      rw [get_sh] at hb
      exact absurd h3.symm (hn h1 b (List.mem_of_getElem? hb) h2)
  · obtain ⟨k,rfl⟩:=PQ.sh_ex ei
    rw [get_sh] at ha
    by_cases ej:j=A.length
    · subst ej
      rw [get_mid] at hb;cases hb
      exact absurd h3 (hn h2 a (List.mem_of_getElem? ha) h1)
    · obtain ⟨l,rfl⟩:=PQ.sh_ex ej
      rw [get_sh] at hb
      rw [hd k l a b ha hb h1 h2 h3]
theorem dist_del {A D:List TMark} {x:TMark} (hd:Dist (A++x::D)):Dist (A++D):=by
  intro i j a b ha hb h1 h2 h3
  have:=hd (PQ.sh A.length i) (PQ.sh A.length j) a b (by rw [get_sh];exact ha) (by rw [get_sh];exact hb) h1 h2 h3
  have c1:=PQ.sh_cases A.length i;have c2:=PQ.sh_cases A.length j
  omega
theorem CutM.turn {t:Int} {m A M D:List TMark} (h:CutM t m A M D) (it:TItem) (b:Bool):CutM t (turnM it b m) (turnM it b A) (turnM it b M) (turnM it b D):=by
  have key : ∀ (l:List TMark) (x:TMark),x∈turnM it b l→∃ y∈l,x.op=y.op:=fun l x hx=>by
    obtain ⟨y,h1,rfl⟩:=List.mem_map.1 hx
    exact ⟨y,h1,turnF_op ..⟩
  refine ⟨by rw [h.eq,turnM_app,turnM_app],fun x hx=>?_,fun x hx=>?_,?_⟩
  · obtain ⟨y,h1,h2⟩:=key A x hx;rw [h2];exact h.la y h1
  · obtain ⟨y,h1,h2⟩:=key D x hx;rw [h2];exact h.lb y h1
  · rcases h.lm with h1 | ⟨y,h1,h2⟩
    · exact .inl (by rw [h1];rfl)
    · exact .inr ⟨turnF it b y,by rw [h1];rfl,by rw [turnF_op];exact h2⟩
section
variable {q:TQueue} {m A D:List TMark} {c:Int} {B:Nat} {E t:Int}
theorem addD (h:QRep q m c B) (hc:CutM t m A [] D) (hl:(m.length:Int)≠c) (hl2:m.length<100) (hb9:B+1<900000) : ∃ r p,Tree_Put.f opsM K1 q.marks.p q.marks.r (keyM t)=some (true,r,p)∧QRep ⟨q.capacity,⟨p,r⟩,q.present,q.gone,q.times,q.excess⟩ (A++keyM t::D) c (B+1):=by
  have hlim:=h.lim;have hbnd:=h.bnd;have hlen:=h.len
  have e:m=A++D:=by have:=hc.eq;rwa [List.nil_append] at this
  have hl3:(A++keyM t::D).length=m.length+1:=by rw [e];simp;omega
  obtain ⟨r,p,m1,m2⟩:=mput h.marks (by omega) (by omega) (keyM t) (A:=A) (M:=[]) (D:=D) hc (fun _=>hl)
  have e1:hereI (A++keyM t::D)=hereI m:=by rw [hereI_mid,(one_D (x:=keyM t) rfl).1,e,hereI_app];rfl
  have e2:goneI (A++keyM t::D)=goneI m:=by rw [goneI_mid,(one_D (x:=keyM t) rfl).2.1,e,goneI_app];rfl
  have e3:slotsOf (A++keyM t::D)=slotsOf m:=by rw [slotsOf_mid,(one_D (x:=keyM t) rfl).2.2,e,slotsOf_app];rfl
  obtain ⟨Tp,p1,p2⟩:=h.pres;obtain ⟨Tg,g1,g2⟩:=h.gone;obtain ⟨Tt,t1,t2⟩:=h.times
  refine ⟨r,p,m1,⟨h.cap,m2,⟨Tp,p1.mono (by omega) (by omega),e1▸p2⟩,⟨Tg,g1.mono (by omega) (by omega),e2▸g2⟩,⟨Tt,t1.mono (by omega) (by omega),e3▸t2⟩,dist_ins (e▸h.dist) (fun h=>by cases h),by omega,by omega,hb9,fun y hy=>?_⟩⟩
  rcases List.mem_append.1 hy with hy | hy
  · exact h.plain y (by rw [e];exact List.mem_append_left _ hy)
  · rcases List.mem_cons.1 hy with rfl | hy
    · exact ⟨rfl,fun _=>⟨rfl,rfl⟩⟩
    · exact h.plain y (by rw [e];exact List.mem_append_right _ hy)
theorem dropD (h:QRep q m c B) {y:TMark} (hc:CutM t m A [y] D) (hy:y.op.insert=false) : ∃ r p,Tree_Drop.f opsM K1 q.marks.p q.marks.r (keyM t)=some (y,true,r,p)∧QRep ⟨q.capacity,⟨p,r⟩,q.present,q.gone,q.times,q.excess⟩ (A++D) c B:=by
  have hlim:=h.lim;have hbnd:=h.bnd;have hlen:=h.len
  have e:m=A++y::D:=hc.eq
  have hl3:m.length=(A++D).length+1:=by rw [e];simp;omega
  obtain ⟨r,p,m1,m2⟩:=mdrop h.marks (by omega) hc
  have e1:hereI m=hereI (A++D):=by rw [e,hereI_mid,(one_D hy).1,hereI_app];rfl
  have e2:goneI m=goneI (A++D):=by rw [e,goneI_mid,(one_D hy).2.1,goneI_app];rfl
  have e3:slotsOf m=slotsOf (A++D):=by rw [e,slotsOf_mid,(one_D hy).2.2,slotsOf_app];rfl
  have hd:=h.dist
  rw [e] at hd
  refine ⟨r,p,m1,⟨h.cap,m2,e1▸h.pres,e2▸h.gone,e3▸h.times,dist_del hd,by omega,by omega,h.bnd,fun x hx=>h.plain x ?_⟩⟩
  rw [e]
  rcases List.mem_append.1 hx with hx | hx
  · exact List.mem_append_left _ hx
  · exact List.mem_append_right _ (List.mem_cons_of_mem _ hx)
theorem sdrop_none {p:PN TSlot TSize} {r:TRef} {l:List TItem} {x:TItem} (h : ∃ T,GrS p r T c B∧T.Perm (sls l)) (hl:l.length<1000) (hx:x∉l) : ∃ e b r' p',Tree_Drop.f opsS K1 p r (slot x)=some (e,b,r',p')∧∃ T,GrS p' r' T c B∧T.Perm (sls l):=by
  obtain ⟨T,h1,h2⟩:=h
  have hlen:T.length=l.length:=by rw [h2.length_eq,List.length_map]
  obtain ⟨e,b,r',p',T',d1,d2,d3⟩:=sdrop h1 (by omega) x
  refine ⟨e,b,r',p',d1,T',d2,?_⟩
  rcases d3 with ⟨s,s1,s2⟩ | ⟨_,s2⟩
  · have:=(sls_item (h2.mem_iff.1 (s2.mem_iff.2 List.mem_cons_self))).2
    rw [s1] at this;exact absurd this hx
  · rw [s2];exact h2
theorem sdrop_some {p:PN TSlot TSize} {r:TRef} {l l':List TItem} {x:TItem} (h : ∃ T,GrS p r T c B∧T.Perm (sls l)) (hl:l.length<1000) (hx:l.Perm (x::l')) : ∃ e b r' p',Tree_Drop.f opsS K1 p r (slot x)=some (e,b,r',p')∧∃ T,GrS p' r' T c B∧T.Perm (sls l'):=by
  obtain ⟨T,h1,h2⟩:=h
  have hlen:T.length=l.length:=by rw [h2.length_eq,List.length_map]
  obtain ⟨e,b,r',p',T',d1,d2,d3⟩:=sdrop h1 (by omega) x
  refine ⟨e,b,r',p',d1,T',d2,?_⟩
  rcases d3 with ⟨s,s1,s2⟩ | ⟨s1,_⟩
  · exact perm_less h2 hx s2 s1
  · exact absurd rfl (s1 (slot x) (h2.mem_iff.2 (List.mem_map_of_mem (hx.mem_iff.2 List.mem_cons_self))))
theorem dropI (h : QRep q m c B) {y : TMark} (hc : CutM t m A [y] D) (hy : y.op.insert = true) : ∃ r p, Tree_Drop.f opsM K1 q.marks.p q.marks.r (keyM t) = some (y, true, r, p) ∧ ∃ e1 b1 r1 p1, Tree_Drop.f opsS K1 q.present.p q.present.r (slot y.op.item) = some (e1, b1, r1, p1) ∧
    ∃ e2 b2 r2 p2,Tree_Drop.f opsS K1 q.gone.p q.gone.r (slot y.op.item)=some (e2,b2,r2,p2)∧∃ e3 b3 r3 p3,Tree_Drop.f opsS K1 q.times.p q.times.r (slot y.op.item)=some (e3,b3,r3,p3) ∧
    QRep ⟨q.capacity,⟨p,r⟩,⟨p1,r1⟩,⟨p2,r2⟩,⟨p3,r3⟩,q.excess⟩ (A++D) c B:=by
  have hlim:=h.lim;have hbnd:=h.bnd;have hlen:=h.len
  have e:m=A++y::D:=hc.eq
  have hl3:m.length=(A++D).length+1:=by rw [e];simp;omega
  obtain ⟨r,p,m1,m2⟩:=mdrop h.marks (by omega) hc
  have ls:=len_split m
  have hmem:y∈m:=by rw [e];simp
  have hd:=h.dist
  rw [e] at hd
  have hP : ∃ e1 b1 r1 p1,Tree_Drop.f opsS K1 q.present.p q.present.r (slot y.op.item)=some (e1,b1,r1,p1)∧∃ T,GrS p1 r1 T c B∧T.Perm (sls (hereI (A++D))):=by
    cases hh:y.here with
    | true => exact sdrop_some h.pres (by omega) (by rw [e, hereI_mid, (one_S ⟨hy, hh⟩).1, hereI_app]; exact List.perm_middle)
    | false =>
      have e1:hereI m=hereI (A++D):=by rw [e,hereI_mid,(one_G ⟨hy,hh⟩).1,hereI_app];rfl
      rw [← e1]
      exact sdrop_none h.pres (by omega) (not_here h.dist hmem hy hh)
  have hG : ∃ e1 b1 r1 p1,Tree_Drop.f opsS K1 q.gone.p q.gone.r (slot y.op.item)=some (e1,b1,r1,p1)∧∃ T,GrS p1 r1 T c B∧T.Perm (sls (goneI (A++D))):=by
    cases hh:y.here with
    | false => exact sdrop_some h.gone (by omega) (by rw [e, goneI_mid, (one_G ⟨hy, hh⟩).2, goneI_app]; exact List.perm_middle)
    | true =>
      have e1:goneI m=goneI (A++D):=by rw [e,goneI_mid,(one_S ⟨hy,hh⟩).2,goneI_app];rfl
      rw [← e1]
      exact sdrop_none h.gone (by omega) (not_gone h.dist hmem hy hh)
  obtain ⟨e1,b1,r1,p1,a1,a2⟩:=hP
  obtain ⟨e2,b2,r2,p2,a3,a4⟩:=hG
  obtain ⟨Tt,t1,t2⟩:=h.times
  have lt:Tt.length≤m.length:=by rw [t2.length_eq];exact len_slots m
  obtain ⟨e3,b3,r3,p3,T3,a5,a6,a7⟩:=sdrop t1 (by omega) y.op.item
  refine ⟨r,p,m1,e1,b1,r1,p1,a1,e2,b2,r2,p2,a3,e3,b3,r3,p3,a5,⟨h.cap,m2,a2,a4,⟨T3,a6,?_⟩,dist_del hd,by omega,by omega,h.bnd,fun x hx=>h.plain x ?_⟩⟩
  · have hs0:(slotsOf m).Perm (⟨y.op.item,true,y.op.time⟩::slotsOf (A++D)):=by rw [e,slotsOf_mid,one_I hy,slotsOf_app];exact List.perm_middle
    rcases a7 with ⟨s,s1,s2⟩ | ⟨s1,_⟩
    · have hsm:s∈slotsOf m:=t2.mem_iff.1 (s2.mem_iff.2 List.mem_cons_self)
      obtain ⟨y',y1,y2,rfl⟩:=mem_slotsOf.1 hsm
      have:=h.dist.eq y1 hmem y2 hy s1
      subst this
      exact (s2.symm.trans (t2.trans hs0)).cons_inv
    · exact absurd rfl (s1 _ (t2.mem_iff.2 (hs0.mem_iff.2 List.mem_cons_self)))
  · rw [e]
    rcases List.mem_append.1 hx with hx | hx
    · exact List.mem_append_left _ hx
    · exact List.mem_append_right _ (List.mem_cons_of_mem _ hx)
theorem may_ok {M:List TMark} (h:QRep q m c B) (hc:CutM t m A M D):partial_Queue_may.f K1 q t=some (if (m.length:Int)=c then 10 else if M=[] then 0 else 11):=by
  have hlim:=h.lim
  unfold partial_Queue_may.f
  simp only [len_ok h.marks,Option.bind_some,h.cap,key_ok,mfind h.marks (by omega) hc]
  by_cases e:(m.length:Int)=c
  · rw [if_pos e];simp [e]
  · rw [if_neg e]
    have:((m.length:Int) == c)=false:=by simpa using e
    rw [this]
    rcases hc.lm with h1 | ⟨y,h1,_⟩
    · subst h1;rfl
    · subst h1;simp [fnd]
theorem insert_no {M : List TMark} (h : QRep q m c B) (hc : CutM t m A M D) (x : TItem) :
    ((m.length:Int)=c→partial_Queue_Insert.f K1 q t x=some (⟨[],[]⟩,10,q))∧((m.length:Int)≠c→M≠[]→partial_Queue_Insert.f K1 q t x=some (⟨[],[]⟩,11,q)) ∧
    ((m.length:Int)≠c→M=[]→(∃ y∈m,y.op.insert=true∧y.op.item=x)→partial_Queue_Insert.f K1 q t x=some (⟨[],[]⟩,2,q)):=by
  have hlim:=h.lim
  refine ⟨fun e=>?_,fun e e2=>?_,fun e e2=>?_⟩
  · unfold partial_Queue_Insert.f
    rw [may_ok h hc,if_pos e];rfl
  · unfold partial_Queue_Insert.f
    rw [may_ok h hc,if_neg e,if_neg e2];rfl
  · rintro ⟨y,y1,y2,y3⟩
    obtain ⟨Tt,t1,t2⟩:=h.times
    have lt:Tt.length≤m.length:=by rw [t2.length_eq];exact len_slots m
    obtain ⟨s,b,f1,f2⟩:=sfind t1 (by omega) x
    have hb:b=true:=by
      rcases f2 with ⟨h1,_⟩ | ⟨_,h1⟩
      · exact h1
      · exact absurd y3 (h1 ⟨y.op.item,true,y.op.time⟩ (t2.mem_iff.2 (mem_slotsOf.2 ⟨y,y1,y2,rfl⟩)))
    subst hb
    unfold partial_Queue_Insert.f
    rw [may_ok h hc,if_neg e,if_pos e2]
    simp only [Option.bind_some,of_ok,f1]
    rfl
theorem insert_ok (h : QOk q m E c B) (hc : CutM t m A [] D) (x : TItem) (hl : (m.length : Int) ≠ c) (hl2 : m.length < 100) (hn : ∀ y ∈ m, y.op.insert = true → y.op.item ≠ x) (hb9 : B + 2 < 900000) :
    ∃ ch q' m' E',partial_Queue_Insert.f K1 q t x=some (ch,0,q')∧QOk q' m' E' c (B+2)∧m'.map (·.op)=A.map (·.op)++(⟨t,true,x⟩::D.map (·.op))∧Chg ch m m':=by
  have hlim:=h.rep.lim;have hbnd:=h.rep.bnd;have hlen:=h.rep.len
  have e:m=A++D:=by have:=hc.eq;rwa [List.nil_append] at this
  let xm:TMark:=⟨⟨t,true,x⟩,false,zTTook⟩
  have hxG:isG xm:=⟨rfl,rfl⟩
  have hl3:(A++xm::D).length=m.length+1:=by rw [e];simp;omega
  have hsm:=cert_small h.cert
  obtain ⟨Tp,p1,p2⟩:=h.rep.pres;obtain ⟨Tg,g1,g2⟩:=h.rep.gone;obtain ⟨Tt,t1,t2⟩:=h.rep.times
  have ls:=len_split m
  have lt:Tt.length≤m.length:=by rw [t2.length_eq];exact len_slots m
  have lg:Tg.length=(goneI m).length:=by rw [g2.length_eq];simp
  obtain ⟨s,b,f1,f2⟩:=sfind t1 (by omega) x
  have hT : ∀ s'∈Tt,s'.item≠x:=fun s' hs'=>by
    obtain ⟨y,y1,y2,rfl⟩:=mem_slotsOf.1 (t2.mem_iff.1 hs')
    exact hn y y1 y2
  have hb:b=false:=by
    rcases f2 with ⟨_,h1,h2⟩ | ⟨h1,_⟩
    · exact absurd h2 (hT s h1)
    · exact h1
  subst hb
  obtain ⟨v,v1,v2⟩:=prior_ok h.rep.marks (by omega) (base:=E) ⟨by omega,by omega⟩ (A.length:Int)
  rw [clampN_nat (by rw [e];simp)] at v2
  obtain ⟨r3,p3,T3,u1,u2,u3⟩:=sput t1 (by omega) (by omega) ⟨x,true,t⟩ hT (by omega)
  obtain ⟨r4,p4,w1,w2⟩:=mput h.rep.marks (by omega) (by omega) xm (A:=A) (M:=[]) (D:=D) hc (fun _=>hl)
  obtain ⟨r5,p5,T5,y1,y2,y3⟩:=sput g1 (by omega) (by omega) (slot x) (fun s' hs' e'=>by
    have:=(sls_item (g2.mem_iff.1 hs')).2
    rw [e'] at this
    obtain ⟨i,y,z1,z2,z3⟩:=mem_goneI.1 this
    exact hn y (List.mem_of_getElem? z1) z2.1 z3) (by omega)
  have e1:hereI (A++xm::D)=hereI m:=by rw [hereI_mid,(one_G hxG).1,e,hereI_app];rfl
  have e2:(goneI (A++xm::D)).Perm (x::goneI m):=by rw [goneI_mid,(one_G hxG).2,e,goneI_app];exact List.perm_middle
  have e3:(slotsOf (A++xm::D)).Perm (⟨x,true,t⟩::slotsOf m):=by rw [slotsOf_mid,one_I (x:=xm) rfl,e,slotsOf_app];exact List.perm_middle
  have hd1:Dist (A++xm::D):=dist_ins (e▸h.rep.dist) (fun _=>e▸hn)
  have hR : ∀ ex,QRep ⟨q.capacity,⟨p4,r4⟩,q.present,⟨p5,r5⟩,⟨p3,r3⟩,ex⟩ (A++xm::D) c (B+1):=fun ex =>
    ⟨h.rep.cap,w2,⟨Tp,p1.mono (by omega) (by omega),e1▸p2⟩,⟨T5,y2,y3.trans ((g2.cons _).trans (e2.map slot).symm)⟩,⟨T3,u2,u3.trans ((t2.cons _).trans e3.symm)⟩,hd1,by omega,by omega,by omega,fun y hy=>by
      rcases List.mem_append.1 hy with hy | hy
      · exact h.rep.plain y (by rw [e];exact List.mem_append_left _ hy)
      · rcases List.mem_cons.1 hy with rfl | hy
        · exact ⟨rfl,fun h=>by cases h⟩
        · exact h.rep.plain y (by rw [e];exact List.mem_append_right _ hy)⟩
  have ho:(A++xm::D).map (·.op)=A.map (·.op)++(⟨t,true,x⟩::D.map (·.op)):=by simp [xm]
  unfold partial_Queue_Insert.f
  rw [may_ok h.rep hc,if_neg hl,if_pos rfl]
  have hz:((0:Int) != 0)=false:=rfl
  simp only [Option.bind_some,hz,cond_false,of_ok,f1,key_ok,mrank h.rep.marks (by omega) hc,h.exc,v1,u1]
  rw [show (TMark.mk (TOp.mk t true x) false zTTook)=xm from rfl]
  simp only [w1,Option.bind_some,y1]
  rcases edit_insert hxG hd1 (e▸h.cert) (e▸v2) with ⟨rfl,hcert⟩ | ⟨b,rfl,hb1,hbest⟩
  · have hw:w64 (E - 1)=E - 1:=w64_id (by omega) (by omega)
    have e0:decide ((-1:Int)<0)=true:=rfl
    simp only [e0,cond_true,hw]
    exact ⟨_,_,_,E - 1,rfl,⟨⟨(hR _).cap,(hR (E - 1)).marks.mono (by omega) (by omega),(hR (E - 1)).pres.imp (fun T h=>⟨h.1.mono (by omega) (by omega),h.2⟩),(hR (E - 1)).gone.imp (fun T h=>⟨h.1.mono (by omega) (by omega),h.2⟩),(hR (E - 1)).times.imp (fun T h=>⟨h.1.mono (by omega) (by omega),h.2⟩),hd1,(hR (E - 1)).len,(hR (E - 1)).lim,hb9,(hR (E - 1)).plain⟩,hcert,rfl⟩,ho,.inl ⟨rfl,by rw [e1]⟩⟩
  · have e0:decide ((b:Int)<0)=false:=by simp
    have hbl:b≤(A++xm::D).length:=by simp;omega
    obtain ⟨best,b1,b2⟩:=best_ok w2 (by omega) hbl
    obtain ⟨c1,c2,z,y,z1,z2,z3⟩:=hbest best b2
    obtain ⟨q',k1,k2,k3⟩:=turn_ok (hR E) (List.mem_of_getElem? z1) z2.1 (hh:=true) z2.2 hb9
    have hp:=turn_permG hd1 (List.mem_of_getElem? z1) z2
    rw [z3] at k1 k2 hp
    rw [e1] at hp
    simp only [e0,cond_false,b1,Option.bind_some,k1]
    exact ⟨_,_,_,E,rfl,⟨k2,c2,k3⟩,by rw [turnM_ops];exact ho,.inr (.inl ⟨_,rfl,hp⟩)⟩
theorem delete_no {M : List TMark} (h : QRep q m c B) (hc : CutM t m A M D) :
    ((m.length:Int)=c→partial_Queue_Delete.f K1 q t=some (⟨[],[]⟩,10,q))∧((m.length:Int)≠c→M≠[]→partial_Queue_Delete.f K1 q t=some (⟨[],[]⟩,11,q)):=by
  refine ⟨fun e=>?_,fun e e2=>?_⟩
  · unfold partial_Queue_Delete.f
    rw [may_ok h hc,if_pos e];rfl
  · unfold partial_Queue_Delete.f
    rw [may_ok h hc,if_neg e,if_neg e2];rfl
theorem delete_ok (h : QOk q m E c B) (hc : CutM t m A [] D) (hl : (m.length : Int) ≠ c) (hl2 : m.length < 100) (hb9 : B + 2 < 900000) :
    ∃ ch q' m' E',partial_Queue_Delete.f K1 q t=some (ch,0,q')∧QOk q' m' E' c (B+2)∧m'.map (·.op)=A.map (·.op)++(⟨t,false,zTItem⟩::D.map (·.op))∧Chg ch m m':=by
  have hlim:=h.rep.lim;have hbnd:=h.rep.bnd;have hlen:=h.rep.len
  have e:m=A++D:=by have:=hc.eq;rwa [List.nil_append] at this
  have hsm:=cert_small h.cert
  have hd1:Dist (A++keyM t::D):=dist_ins (e▸h.rep.dist) (fun h=>by cases h)
  have ho:(A++keyM t::D).map (·.op)=A.map (·.op)++(⟨t,false,zTItem⟩::D.map (·.op)):=by simp [keyM]
  have e1:hereI (A++keyM t::D)=hereI m:=by rw [hereI_mid,(one_D (x:=keyM t) rfl).1,e,hereI_app];rfl
  obtain ⟨v,v1,v2⟩:=leave_ok h.rep h.exc ⟨hsm.1,by omega⟩ (n:=A.length) (by rw [e];simp) (by omega)
  obtain ⟨b,rfl,hb1,hleast⟩:=edit_delete (x:=keyM t) rfl hd1 (e▸h.cert) (e▸v1)
  obtain ⟨least,l1,l2⟩:=v2 b rfl (by rw [e];exact hb1)
  unfold partial_Queue_Delete.f
  rw [may_ok h.rep hc,if_neg hl,if_pos rfl]
  have hz:((0:Int) != 0)=false:=rfl
  simp only [Option.bind_some,hz,cond_false,key_ok,mrank h.rep.marks (by omega) hc]
  rw [e] at l1
  rcases hleast least l1 with ⟨g1,g2⟩ | ⟨g1,g2,z,y,z1,z2,z3⟩
  · rcases l2 with ⟨_,l3⟩ | ⟨l3,_⟩
    · obtain ⟨r,p,k1,k2⟩:=addD (h.rep.exc (E+1)) hc hl hl2 (by omega)
      rw [l3]
      simp only [Option.bind_some] at k1 ⊢
      rw [k1]
      refine ⟨_,_,_,E+1,rfl,⟨⟨k2.cap,k2.marks.mono (by omega) (by omega),k2.pres.imp (fun T h=>⟨h.1.mono (by omega) (by omega),h.2⟩),k2.gone.imp (fun T h=>⟨h.1.mono (by omega) (by omega),h.2⟩),k2.times.imp (fun T h=>⟨h.1.mono (by omega) (by omega),h.2⟩),hd1,k2.len,k2.lim,hb9,k2.plain⟩,g2,rfl⟩,ho,.inl ⟨rfl,by rw [e1]⟩⟩
    · rw [g1] at l3;cases l3
  · rcases l2 with ⟨l3,_⟩ | ⟨_,l3⟩
    · rw [g1] at l3;cases l3
    · have hy:y∈m:=by rw [e];exact List.mem_of_getElem? z1
      obtain ⟨q',k1,k2,k3⟩:=l3 ⟨y,hy,z2,z3⟩
      have hcut:=hc.turn least.item false
      have hml:=turnM_len least.item false m
      obtain ⟨r,p,k4,k5⟩:=addD k2 hcut (by omega) (by omega) (by omega)
      rw [k1]
      simp only [Option.bind_some,k4]
      have e5:turnM least.item false A++keyM t::turnM least.item false D=turnM least.item false (A++keyM t::D):=by
        rw [turnM_app,turnM_cons,turnF_del (x:=keyM t) rfl]
      have hp:=turn_permS h.rep.dist hy z2
      rw [z3] at hp
      rw [e5] at k5
      refine ⟨_,_,_,E,rfl,⟨k5,g2,k3⟩,by rw [turnM_ops];exact ho,.inr (.inr ⟨_,rfl,?_⟩)⟩
      have e6:hereI (turnM least.item false (A++keyM t::D))=hereI (turnM least.item false m):=by
        rw [← e5,hereI_mid,(one_D (x:=keyM t) rfl).1,e,turnM_app,hereI_app];rfl
      rw [e6];exact hp
theorem revoke_no (h:QRep q m c B) (hc:CutM t m A [] D):partial_Queue_Revoke.f K1 q t=some (⟨[],[]⟩,14,q):=by
  have hlim:=h.lim
  unfold partial_Queue_Revoke.f
  simp only [key_ok,Option.bind_some,mfind h.marks (by omega) hc,fnd]
  rfl
theorem revoke_ok (h : QOk q m E c B) {y : TMark} (hc : CutM t m A [y] D) (hb9 : B + 2 < 900000) :
    ∃ ch q' m' E',partial_Queue_Revoke.f K1 q t=some (ch,0,q')∧QOk q' m' E' c (B+2)∧m'.map (·.op)=A.map (·.op)++D.map (·.op)∧Chg ch m m':=by
  have hlim:=h.rep.lim;have hbnd:=h.rep.bnd;have hlen:=h.rep.len
  have e:m=A++y::D:=hc.eq
  have hsm:=cert_small h.cert
  have hal:A.length+1≤m.length:=by rw [e];simp
  have hymem:y∈m:=by rw [e];simp
  have hd0:=h.rep.dist
  rw [e] at hd0
  have hd1:Dist (A++D):=dist_del hd0
  have ho:(A++D).map (·.op)=A.map (·.op)++D.map (·.op):=by simp
  have up : ∀ {q':TQueue} {m':List TMark} {b:Nat},QRep q' m' c b→b≤B+2→QRep q' m' c (B+2):=fun k hk =>
    ⟨k.cap,k.marks.mono hk (by omega),k.pres.imp (fun T h=>⟨h.1.mono hk (by omega),h.2⟩),k.gone.imp (fun T h=>⟨h.1.mono hk (by omega),h.2⟩),k.times.imp (fun T h=>⟨h.1.mono hk (by omega),h.2⟩),k.dist,k.len,k.lim,hb9,k.plain⟩
  unfold partial_Queue_Revoke.f
  simp only [key_ok,Option.bind_some,mfind h.rep.marks (by omega) hc,fnd,Bool.not_true,cond_false,mrank h.rep.marks (by omega) hc,of_ok]
  cases hi:y.op.insert with
  | false =>
    simp only [Bool.not_false,cond_true]
    have e1:hereI m=hereI (A++D):=by rw [e,hereI_mid,(one_D hi).1,hereI_app];rfl
    obtain ⟨v,v1,v2,v3⟩:=enter_ok h.rep h.exc ⟨hsm.1,by omega⟩ (n:=A.length) (by omega) (by omega)
    rcases edit_revD hi hd1 (e▸h.cert) (e▸v1) with ⟨rfl,hcert⟩ | ⟨b,rfl,hb1,hbest⟩
    · obtain ⟨r,p,k1,k2⟩:=dropD (h.rep.exc (E - 1)) hc hi
      rw [v2 rfl]
      simp only [Option.bind_some] at k1 ⊢
      rw [k1]
      exact ⟨_,_,_,E - 1,rfl,⟨up k2 (by omega),hcert,rfl⟩,ho,.inl ⟨rfl,by rw [e1]⟩⟩
    · obtain ⟨best,b1,b2⟩:=v3 b rfl (by omega)
      rw [e] at b1
      obtain ⟨c1,c2,z,w,z1,z2,z3⟩:=hbest best b1
      have hw:w∈m:=by
        rw [e]
        rcases List.mem_append.1 (List.mem_of_getElem? z1) with hw | hw
        · exact List.mem_append_left _ hw
        · exact List.mem_append_right _ (List.mem_cons_of_mem _ hw)
      obtain ⟨q',k1,k2,k3⟩:=b2 c1 ⟨w,hw,z2,z3⟩
      have hcut:=hc.turn best.item true
      have e4:turnM best.item true [y]=[y]:=by rw [turnM_cons,turnF_del hi];rfl
      rw [e4] at hcut
      obtain ⟨r,p,k4,k5⟩:=dropD k2 hcut hi
      rw [k1]
      simp only [Option.bind_some,k4]
      rw [← turnM_app] at k5
      have hp:=turn_permG hd1 (List.mem_of_getElem? z1) z2
      rw [z3] at hp
      exact ⟨_,_,_,E,rfl,⟨up k5 (by omega),c2,k3⟩,by rw [turnM_ops];exact ho,.inr (.inl ⟨_,rfl,by rw [e1];exact hp⟩)⟩
  | true =>
    simp only [Bool.not_true,cond_false]
    cases hh:y.here with
    | true =>
      simp only [Bool.not_true,cond_false,Option.bind_some]
      obtain ⟨r,p,k1,a1,a2,a3,a4,k2,b1,b2,b3,b4,k3,c1,c2,c3,c4,k4,k5⟩:=dropI h.rep hc hi
      simp only [k1,Option.bind_some,k2,k3,k4]
      refine ⟨_,_,_,E,rfl,⟨up k5 (by omega),edit_revS ⟨hi,hh⟩ (e▸h.cert),h.exc⟩,ho,.inr (.inr ⟨_,rfl,?_⟩)⟩
      rw [e,hereI_mid,(one_S ⟨hi,hh⟩).1,hereI_app];exact List.perm_middle
    | false =>
      have hG:isG y:=⟨hi,hh⟩
      have e1:hereI m=hereI (A++D):=by rw [e,hereI_mid,(one_G hG).1,hereI_app];rfl
      have hw:w64 ((A.length:Int)+1)=((A.length+1:Nat):Int):=w64_succ (by omega)
      obtain ⟨v,v1,v2⟩:=leave_ok h.rep h.exc ⟨hsm.1,by omega⟩ (n:=A.length+1) hal (by omega)
      obtain ⟨b,rfl,hb1,hleast⟩:=edit_revG hG hd1 (e▸h.cert) (e▸v1)
      obtain ⟨least,l1,l2⟩:=v2 b rfl (by rw [e];exact hb1)
      rw [e] at l1
      simp only [Bool.not_false,cond_true,hw]
      rcases hleast least l1 with ⟨g1,g2⟩ | ⟨g1,g2,z,w,z1,z2,z3⟩
      · rcases l2 with ⟨_,l3⟩ | ⟨l3,_⟩
        · obtain ⟨r,p,k1,a1,a2,a3,a4,k2,b1,b2,b3,b4,k3,c1,c2,c3,c4,k4,k5⟩:=dropI (h.rep.exc (E+1)) hc hi
          rw [l3]
          simp only [Option.bind_some] at k1 k2 k3 k4 ⊢
          simp only [k1,Option.bind_some,k2,k3,k4]
          exact ⟨_,_,_,E+1,rfl,⟨up k5 (by omega),g2,rfl⟩,ho,.inl ⟨rfl,by rw [e1]⟩⟩
        · rw [g1] at l3;cases l3
      · rcases l2 with ⟨l3,_⟩ | ⟨_,l3⟩
        · rw [g1] at l3;cases l3
        · have hwm : w ∈ m := by
            rw [e]
            rcases List.mem_append.1 (List.mem_of_getElem? z1) with hw | hw
            · exact List.mem_append_left _ hw
            · exact List.mem_append_right _ (List.mem_cons_of_mem _ hw)
          obtain ⟨q',k1,k2,k3⟩:=l3 ⟨w,hwm,z2,z3⟩
          have hcut:=hc.turn least.item false
          have e4:turnM least.item false [y]=[y]:=by
            rw [turnM_cons]
            have:turnF least.item false y=y:=by
              unfold turnF;split
              · cases y;simp at hh;simp [hh]
              · rfl
            rw [this];rfl
          rw [e4] at hcut
          obtain ⟨r,p,k6,a1,a2,a3,a4,k7,b1,b2,b3,b4,k8,c1,c2,c3,c4,k9,k5⟩:=dropI k2 hcut hi
          rw [k1]
          simp only [Option.bind_some,k6,k7,k8,k9]
          rw [← turnM_app] at k5
          have hp:=turn_permS hd1 (List.mem_of_getElem? z1) z2
          rw [z3] at hp
          exact ⟨_,_,_,E,rfl,⟨up k5 (by omega),g2,k3⟩,by rw [turnM_ops];exact ho,.inr (.inr ⟨_,rfl,by rw [e1];exact hp⟩)⟩
end
end Go.Proofs.YtgjbibabegabnaaGreat
namespace Go.Proofs.YtgjbibabegabnaaGreat
open Go Go.Proofs.YtgjbibabegabnaaGreat.Sx
theorem take_snoc {α:Type} {l:List α} {i:Nat} {x:α} (h:l[i]? = some x):l.take (i+1)=l.take i++[x]:=by rw [List.take_add_one,h];rfl
theorem QOk.up {q:TQueue} {m:List TMark} {E c:Int} {B B':Nat} (h:QOk q m E c B) (hB:B≤B') (hb9:B'<900000):QOk q m E c B' :=
  ⟨⟨h.rep.cap,h.rep.marks.mono hB (by omega),h.rep.pres.imp (fun T h=>⟨h.1.mono hB (by omega),h.2⟩),h.rep.gone.imp (fun T h=>⟨h.1.mono hB (by omega),h.2⟩),h.rep.times.imp (fun T h=>⟨h.1.mono hB (by omega),h.2⟩),h.rep.dist,h.rep.len,h.rep.lim,hb9,h.rep.plain⟩,h.cert,h.exc⟩
theorem cap_bd (n:Int):0≤gmin (gmax n 0) 65536∧gmin (gmax n 0) 65536≤65536:=by
  unfold gmin gmax;split <;> split <;> omega
theorem qops_loop (m:List TMark) (hl:m.length<1000000) : ∀ (d i n:Nat),i+d=m.length→d<n→partial_Queue_Ops.l0 K1 m n ((m.take i).map (·.op),(i:Int))=some (m.map (·.op))
  | d, i, 0, _, h => by omega
  | 0, i, n + 1, hi, _ => by
    simp only [partial_Queue_Ops.l0]
    rw [dec_nlt (by omega),List.take_of_length_le (by omega)];rfl
  | d + 1, i, n + 1, hi, hn => by
    obtain ⟨x,hx,_⟩:=drop_cons (l:=m) (i:=i) (by omega)
    have e:(m.take i).map (·.op)++[x.op]=(m.take (i+1)).map (·.op):=by rw [take_snoc hx];simp
    simp only [partial_Queue_Ops.l0]
    rw [dec_lt (by omega)]
    simp only [cond_true,atL_nat hx,Option.bind_some]
    rw [decide_eq_true (by simp;omega)]
    simp only [cond_true,e,w64_succ (i:=i) (by omega)]
    exact qops_loop m hl d (i+1) n (by omega) (by omega)
theorem qops {q:TQueue} {m:List TMark} {c:Int} {B:Nat} (h:GrM q.marks.p q.marks.r m c B) (hl:m.length<100000):partial_Queue_Ops.f K1 q=some (m.map (·.op)):=by
  have e:=qops_loop m (by omega) m.length 0 K1 (Nat.zero_add _) (by unfold K1;omega)
  replace e:partial_Queue_Ops.l0 K1 m K1 ([],0)=some (m.map (·.op)):=e
  unfold partial_Queue_Ops.f
  rw [h.all okM (by decide) (by omega)]
  simp only [Option.bind_some,e]
theorem new_ok (n:Int) : ∃ q,partial_New.f K1 n=some q∧QOk q [] 0 (gmin (gmax n 0) 65536) 0:=by
  have hb:=cap_bd n
  have hc:capOf (gmin (gmax n 0) 65536)=gmin (gmax n 0) 65536:=by
    generalize gmin (gmax n 0) 65536=c at *
    unfold capOf;split <;> split <;> omega
  unfold partial_New.f wave_New.f shelf_New.f Tree_New.f
  simp only [Option.bind_some,hc]
  refine ⟨_,rfl,⟨⟨rfl,Gr.new _ 0 (by decide),⟨[],Gr.new _ 0 (by decide),List.Perm.refl _⟩,⟨[],Gr.new _ 0 (by decide),List.Perm.refl _⟩,⟨[],Gr.new _ 0 (by decide),List.Perm.refl _⟩,?_,by simpa using hb.1,by decide,by decide,fun x hx=>by cases hx⟩,?_,rfl⟩⟩
  · intro i j x y h1;simp at h1
  · refine ⟨fun p hp=>?_,?_,fun i j hi=>?_,fun h=>?_⟩
    · have:p=0:=by simpa using hp
      subst this;simp [hgt]
    · simp [hgt]
    · simp at hi
    · simp [hgt] at h
end Go.Proofs.YtgjbibabegabnaaGreat
namespace Go.Proofs.YtgjbibabegabnaaGreat
open Go Go.Proofs.YtgjbibabegabnaaGreat.Sx
abbrev TS1 (os:List TOp):Prop:=os.Pairwise fun x y=>x.time<y.time
def QIs (c:Int) (B:Nat) (q:TQueue) (os:List TOp):Prop:=∃ m E,QOk q m E c B∧m.map (·.op)=os
theorem QIs.up {c:Int} {B B':Nat} {q:TQueue} {os:List TOp} (h:QIs c B q os) (hB:B≤B') (hb9:B'<900000):QIs c B' q os:=by
  obtain ⟨m,E,h1,h2⟩:=h
  exact ⟨m,E,h1.up hB hb9,h2⟩
theorem QIs.sorted {c:Int} {B:Nat} {q:TQueue} {os:List TOp} (h:QIs c B q os):TS1 os:=by
  obtain ⟨m,E,h1,rfl⟩:=h
  exact List.pairwise_map.2 h1.rep.marks.sorted
theorem QIs.lim {c:Int} {B:Nat} {q:TQueue} {os:List TOp} (h:QIs c B q os):os.length≤100∧(os.length:Int)≤c∧B<900000:=by
  obtain ⟨m,E,h1,rfl⟩:=h
  have:=h1.rep.lim;have:=h1.rep.len;have:=h1.rep.bnd
  rw [List.length_map];exact ⟨by omega,by omega,by omega⟩
theorem QIs.ops {c:Int} {B:Nat} {q:TQueue} {os:List TOp} (h:QIs c B q os):partial_Queue_Ops.f K1 q=some os:=by
  obtain ⟨m,E,h1,rfl⟩:=h
  have:=h1.rep.lim
  exact qops h1.rep.marks (by omega)
theorem QIs.len {c:Int} {B:Nat} {q:TQueue} {os:List TOp} (h:QIs c B q os):partial_Queue_Len.f K1 q=some (os.length:Int):=by
  obtain ⟨m,E,h1,rfl⟩:=h
  unfold partial_Queue_Len.f
  rw [len_ok h1.rep.marks,List.length_map];rfl
theorem QIs.cut {c : Int} {B : Nat} {q : TQueue} {A M D : List TOp} {t : Int} (h : QIs c B q (A ++ (M ++ D))) (hA : ∀ x ∈ A, x.time < t) (hD : ∀ x ∈ D, t < x.time) (hM : M = [] ∨ ∃ y, M = [y] ∧ y.time = t) :
    ∃ (m:List TMark) (E:Int) (A' M' D':List TMark),QOk q m E c B∧CutM t m A' M' D'∧A'.map (·.op)=A∧M'.map (·.op)=M∧D'.map (·.op)=D:=by
  obtain ⟨m,E,h1,h2⟩:=h
  obtain ⟨A',R,e1,e2,e3⟩:=List.map_eq_append_iff.1 h2
  obtain ⟨M',D',e4,e5,e6⟩:=List.map_eq_append_iff.1 e3
  refine ⟨m,E,A',M',D',h1,⟨by rw [e1,e4],fun x hx=>hA x.op (by rw [← e2];exact List.mem_map_of_mem hx),fun x hx=>hD x.op (by rw [← e6];exact List.mem_map_of_mem hx),?_⟩,e2,e5,e6⟩
  rcases hM with rfl | ⟨y,rfl,hy⟩
  · exact .inl (List.map_eq_nil_iff.1 e5)
  · obtain ⟨z,w,rfl,hz,hw⟩:=List.map_eq_cons_iff.1 e5
    have:=List.map_eq_nil_iff.1 hw
    subst this
    exact .inr ⟨z,rfl,by rw [← hy,← hz]⟩
structure Fresh (c:Int) (o:TOp) (os:List TOp):Prop where
  room:(os.length:Int)≠c
  lim:os.length<100
  item:o.insert=true→∀ y∈os,y.insert=true→y.item≠o.item
  del:o.insert=false→o.item=zTItem
theorem add_ok {c : Int} {B : Nat} {q : TQueue} {A D : List TOp} {o : TOp} (h : QIs c B q (A ++ D)) (hA : ∀ x ∈ A, x.time < o.time) (hD : ∀ x ∈ D, o.time < x.time) (hf : Fresh c o (A ++ D)) (hb9 : B + 2 < 900000) :
    ∃ q',past_add.f K1 q o=some (0,q')∧QIs c (B+2) q' (A++o::D):=by
  obtain ⟨m,E,A',M',D',h1,hc,e1,e2,e3⟩:=QIs.cut (M:=[]) (t:=o.time) h hA hD (.inl rfl)
  have hM:M'=[]:=List.map_eq_nil_iff.1 e2
  subst hM
  have hm:m.map (·.op)=A++D:=by rw [hc.eq];simp [e1,e3]
  have hml:m.length=(A++D).length:=by rw [← hm,List.length_map]
  unfold past_add.f
  cases hi:o.insert with
  | true =>
    obtain ⟨ch,q',m',E',r1,r2,r3,_⟩:=insert_ok h1 hc o.item (by rw [hml];exact hf.room) (by rw [hml];exact hf.lim) (fun y hy h2=>hf.item hi y.op (by rw [← hm];exact List.mem_map_of_mem hy) h2) hb9
    refine ⟨q',by rw [cond_true,r1];rfl,m',E',r2,?_⟩
    rw [r3,e1,e3]
    congr 2
    cases o;simp at hi;subst hi;rfl
  | false =>
    obtain ⟨ch,q',m',E',r1,r2,r3,_⟩:=delete_ok h1 hc (by rw [hml];exact hf.room) (by rw [hml];exact hf.lim) hb9
    refine ⟨q',by rw [cond_false,r1];rfl,m',E',r2,?_⟩
    rw [r3,e1,e3]
    congr 2
    have:=hf.del hi
    cases o;simp at hi this;subst hi;subst this;rfl
theorem rev_ok {c : Int} {B : Nat} {q : TQueue} {A D : List TOp} {o : TOp} (h : QIs c B q (A ++ o :: D)) (hA : ∀ x ∈ A, x.time < o.time) (hD : ∀ x ∈ D, o.time < x.time) (hb9 : B + 2 < 900000) :
    ∃ ch q',partial_Queue_Revoke.f K1 q o.time=some (ch,0,q')∧QIs c (B+2) q' (A++D):=by
  obtain ⟨m,E,A',M',D',h1,hc,e1,e2,e3⟩:=QIs.cut (M:=[o]) (t:=o.time) h hA hD (.inr ⟨o,rfl,rfl⟩)
  obtain ⟨z,w,rfl,hz,hw⟩:=List.map_eq_cons_iff.1 e2
  have:=List.map_eq_nil_iff.1 hw
  subst this
  obtain ⟨ch,q',m',E',r1,r2,r3,_⟩:=revoke_ok h1 hc hb9
  exact ⟨ch,q',r1,m',E',r2,by rw [r3,e1,e3]⟩
structure OpsOkL (os:List TOp):Prop where
  time:TS1 os
  item:os.Pairwise fun x y=>x.insert=true→y.insert=true→x.item≠y.item
  del : ∀ o∈os,o.insert=false→o.item=zTItem
theorem queue_loop (os : List TOp) (ho : OpsOkL os) (c : Int) (hc : (os.length : Int) ≤ c) (hl : os.length < 100) : ∀ (d i n : Nat) (q : TQueue), i + d = os.length → d < n → QIs c (2 * i) q (os.take i) →
    ∃ q',past_Past_queue.l0 K1 os n (q,(i:Int))=some q'∧QIs c (2*os.length) q' os
  | d, i, 0, _, _, h, _ => by omega
  | 0, i, n + 1, q, hi, _, hq => by
    refine ⟨q,?_,?_⟩
    · rw [past_Past_queue.l0,dec_nlt (by omega),cond_false]
    · have:i=os.length:=by omega
      subst this
      rwa [List.take_length] at hq
  | d + 1, i, n + 1, q, hi, hn, hq => by
    obtain ⟨o,hc',hd⟩:=drop_cons (l:=os) (i:=i) (by omega)
    have hsplit:os=os.take i++o::os.drop (i+1):=by rw [← hd,List.take_append_drop]
    have ht:=ho.time
    have hit:=ho.item
    rw [hsplit] at ht hit
    have hA : ∀ x∈os.take i,x.time<o.time:=fun x hx=>(List.pairwise_append.1 ht).2.2 x hx o List.mem_cons_self
    have hlen:(os.take i).length=i:=by rw [List.length_take];omega
    obtain ⟨q',r1,r2⟩:=add_ok (A:=os.take i) (D:=[]) (o:=o) (by simpa using hq) hA (by simp) ⟨by simp [hlen];omega,by simp [hlen];omega,fun h1 y hy h2=>(List.pairwise_append.1 hit).2.2 y (by simpa using hy) o List.mem_cons_self h2 h1,fun h1=>ho.del o (List.mem_of_getElem? hc') h1⟩ (by omega)
    rw [past_Past_queue.l0,dec_lt (by omega),cond_true,atL_nat hc',Option.bind_some,r1,Option.bind_some,w64_succ (by omega)]
    refine queue_loop os ho c hc hl d (i+1) n q' (by omega) (by omega) ?_
    rw [List.take_add_one,hc']
    exact r2
theorem queue_ok (os:List TOp) (ho:OpsOkL os) (c:Int) (hc:(os.length:Int)≤c) (hc2:c≤65536) (hl:os.length<100) : ∃ q,past_Past_queue.f K1 c os=some q∧QIs c (2*os.length) q os:=by
  obtain ⟨q0,h0,h1⟩:=new_ok c
  have hcap:gmin (gmax c 0) 65536=c:=by unfold gmin gmax;split <;> split <;> omega
  rw [hcap] at h1
  obtain ⟨q,h2,h3⟩:=queue_loop os ho c hc hl os.length 0 K1 q0 (by omega) (by unfold K1;omega) ⟨[],0,h1,rfl⟩
  refine ⟨q,?_,h3⟩
  unfold past_Past_queue.f
  rw [h0,Option.bind_some]
  replace h2:past_Past_queue.l0 K1 os K1 (q0,0)=some q:=h2
  rw [h2];rfl
end Go.Proofs.YtgjbibabegabnaaGreat
namespace Go.Proofs.YtgjbibabegabnaaGreat
open Go Go.Proofs.YtgjbibabegabnaaGreat.Sx
abbrev PQ:=PT TOp TQueue
def live:PQ→List TOp
  | .nil => []
  | .node o g l r _ _ => live l ++ ((bif g then [] else [o]) ++ live r)
def tim:PQ→List Int
  | .nil => []
  | .node o _ l r _ _ => tim l ++ (o.time :: tim r)
def cnt:PQ→Nat
  | .nil => 0
  | .node _ _ l r _ _ => cnt l + 1 + cnt r
def PTok (c:Int) (B:Nat):PQ→Prop
  | .nil => True
  | .node o g l r n q => QIs c B q (live (.node o g l r n q)) ∧ n = ((cnt l + 1 + cnt r : Nat) : Int) ∧ PTok c B l ∧ PTok c B r
abbrev STm (t:PQ):Prop:=(tim t).Pairwise (· < ·)
def NL:PQ→Prop
  | .nil => True
  | .node _ _ l r _ _ => 3 * max (cnt l) (cnt r) ≤ 2 * (cnt l + 1 + cnt r) + 1 ∧ NL l ∧ NL r
def NG:PQ→Prop
  | .nil => True
  | .node _ g l r _ _ => g = false ∧ NG l ∧ NG r
theorem live_len : ∀ t:PQ,(live t).length≤cnt t
  | .nil => Nat.le_refl _
  | .node o g l r n q => by
    have h1:=live_len l;have h2:=live_len r
    cases g <;> simp only [live,cnt,List.length_append,List.length_cons,List.length_nil,cond_true,cond_false] <;> omega
theorem live_ng : ∀ t:PQ,NG t→(live t).length=cnt t
  | .nil, _ => rfl
  | .node o g l r n q, ⟨h, h1, h2⟩ => by
    subst h
    simp only [live,cnt,List.length_append,List.length_cons,List.length_nil,cond_false,live_ng l h1,live_ng r h2];omega
theorem live_tim : ∀ t:PQ,∀ o∈live t,o.time∈tim t
  | .nil, o, h => by cases h
  | .node p g l r n q, o, h => by
    simp only [live,List.mem_append] at h
    simp only [tim,List.mem_append,List.mem_cons]
    rcases h with h | h | h
    · exact .inl (live_tim l o h)
    · cases g
      · rw [cond_false,List.mem_singleton] at h;subst h;exact .inr (.inl rfl)
      · cases h
    · exact .inr (.inr (live_tim r o h))
theorem STm.parts {o:TOp} {g:Bool} {l r:PQ} {n:Int} {q:TQueue} (h:STm (.node o g l r n q)):STm l∧STm r∧(∀ x∈tim l,x<o.time)∧(∀ x∈tim r,o.time<x):=by
  obtain ⟨h1,h2,h3⟩:=List.pairwise_append.1 h
  obtain ⟨h4,h5⟩:=List.pairwise_cons.1 h2
  exact ⟨h1,h5,fun x hx=>h3 x hx _ List.mem_cons_self,h4⟩
theorem STm.mk {o:TOp} {g:Bool} {l r:PQ} {n:Int} {q:TQueue} (h1:STm l) (h2:STm r) (h3 : ∀ x∈tim l,x<o.time) (h4 : ∀ x∈tim r,o.time<x):STm (.node o g l r n q):=by
  refine List.pairwise_append.2 ⟨h1,List.pairwise_cons.2 ⟨h4,h2⟩,fun x hx y hy=>?_⟩
  rcases List.mem_cons.1 hy with rfl | hy
  · exact h3 x hx
  · have:=h3 x hx;have:=h4 y hy;omega
theorem PTok.up {c:Int} {B B':Nat} (hB:B≤B') (h9:B'<900000) : ∀ {t:PQ},PTok c B t→PTok c B' t
  | .nil, _ => trivial
  | .node o g l r n q, ⟨h1, h2, h3, h4⟩ => ⟨h1.up hB h9, h2, PTok.up hB h9 h3, PTok.up hB h9 h4⟩
theorem size_ok {c:Int} {B:Nat} : ∀ {t:PQ},PTok c B t→past_node_size.f K1 t=some (cnt t:Int)
  | .nil, _ => rfl
  | .node o g l r n q, ⟨_, h, _, _⟩ => by
    show some n=_
    rw [h];rfl
theorem QIs.okl {c:Int} {B:Nat} {q:TQueue} {os:List TOp} (h:QIs c B q os):OpsOkL os:=by
  have hs:=h.sorted
  obtain ⟨m,E,h1,rfl⟩:=h
  refine ⟨hs,List.pairwise_map.2 ?_,fun o ho hi=>?_⟩
  · rw [List.pairwise_iff_getElem]
    intro i j hi hj hij h2 h3 e
    have:=h1.rep.dist i j _ _ (List.getElem?_eq_getElem hi) (List.getElem?_eq_getElem hj) h2 h3 e
    omega
  · obtain ⟨x,hx,rfl⟩:=List.mem_map.1 ho
    exact ((h1.rep.plain x hx).2 hi).2
theorem OpsOkL.sub {os os':List TOp} (h:OpsOkL os) (hs:os'.Sublist os):OpsOkL os':=⟨h.time.sublist hs,h.item.sublist hs,fun o ho=>h.del o (hs.subset ho)⟩
theorem build_ok (c : Int) (hc2 : c ≤ 65536) : ∀ (n : Nat) (os : List TOp), os.length < n → OpsOkL os → (os.length : Int) ≤ c → os.length < 100 →
    ∃ t,past_Past_build.r K1 n c os=some t∧PTok c (2*os.length) t∧live t=os∧tim t=os.map (·.time)∧NG t∧NL t∧(os≠[]→t.isNil=false)
  | 0, os, h, _, _, _ => by omega
  | n + 1, os, hn, ho, hc, hl => by
    by_cases h0:os.length=0
    · have:os=[]:=List.eq_nil_of_length_eq_zero h0
      subst this
      exact ⟨.nil,rfl,trivial,rfl,rfl,trivial,trivial,fun h=>absurd rfl h⟩
    · have e0:((os.length:Int) == 0)=false:=by simp;intro h;subst h;exact h0 rfl
      have em:w64 ((os.length:Int).tdiv 2)=((os.length / 2:Nat):Int):=by
        rw [Int.tdiv_eq_ediv_of_nonneg (by omega),w64_id (by omega) (by omega)];omega
      have em1:w64 (((os.length / 2:Nat):Int)+1)=((os.length / 2+1:Nat):Int):=w64_succ (by omega)
      obtain ⟨o,hg,hd⟩:=drop_cons (l:=os) (i:=os.length / 2) (by omega)
      have hsplit:os=os.take (os.length / 2)++o::os.drop (os.length / 2+1):=by rw [← hd,List.take_append_drop]
      have l1:(os.take (os.length / 2)).length=os.length / 2:=by rw [List.length_take];omega
      have l2:(os.drop (os.length / 2+1)).length=os.length - (os.length / 2+1):=List.length_drop
      obtain ⟨tl,a1,a2,a3,a4,a5,a6,_⟩:=build_ok c hc2 n (os.take (os.length / 2)) (by omega) (ho.sub (List.take_sublist _ _)) (by omega) (by omega)
      obtain ⟨tr,b1,b2,b3,b4,b5,b6,_⟩:=build_ok c hc2 n (os.drop (os.length / 2+1)) (by omega) (ho.sub (List.drop_sublist _ _)) (by omega) (by omega)
      obtain ⟨q,q1,q2⟩:=queue_ok os ho c hc hc2 hl
      have hq9:=q2.lim
      have hcl:cnt tl=os.length / 2:=by rw [← live_ng tl a5,a3,l1]
      have hcr:cnt tr=os.length - (os.length / 2+1):=by rw [← live_ng tr b5,b3,l2]
      have hlv:live (PT.node o false tl tr (os.length:Int) q)=os:=by
        simp only [live,cond_false,a3,b3]
        rw [List.singleton_append,← hsplit]
      refine ⟨PT.node o false tl tr (os.length:Int) q,?_,⟨by rw [hlv];exact q2,by rw [hcl,hcr];omega,a2.up (by omega) (by omega),b2.up (by omega) (by omega)⟩,hlv,?_,⟨rfl,a5,b5⟩,⟨by rw [hcl,hcr];omega,a6,b6⟩,fun _=>rfl⟩
      · simp only [past_Past_build.r,e0,cond_false,em,em1,atL_nat hg,Option.bind_some,Int.toNat_natCast,Nat.sub_zero,List.drop_zero]
        rw [decide_eq_true (by constructor <;> omega),decide_eq_true (by constructor <;> omega)]
        simp only [cond_true,a1,Option.bind_some]
        have e3:(os.drop (os.length / 2+1)).take (os.length - (os.length / 2+1))=os.drop (os.length / 2+1):=List.take_of_length_le (by rw [l2];exact Nat.le_refl _)
        simp only [e3,b1,q1,Option.bind_some]
      · simp only [tim,a4,b4]
        conv=>rhs;rw [hsplit]
        rw [List.map_append,List.map_cons]
end Go.Proofs.YtgjbibabegabnaaGreat
namespace Go.Proofs.YtgjbibabegabnaaGreat
open Go Go.Proofs.YtgjbibabegabnaaGreat.Sx
theorem split_l {A D L R:List TOp} {t:Int} (h:L++R=A++D) (hA : ∀ x∈A,x.time<t) (hR : ∀ x∈R,t<x.time) : ∃ D',L=A++D'∧D=D'++R:=by
  rcases List.append_eq_append_iff.1 h with ⟨X,h1,h2⟩ | ⟨X,h1,h2⟩
  · -- A=L++X,R=X++D
    have:X=[]:=by
      cases X with
      | nil => rfl
      | cons x X =>
        have h3:=hA x (by rw [h1];simp)
        have h4:=hR x (by rw [h2];simp)
        omega
    subst this
    exact ⟨[],by simpa using h1.symm,by simpa using h2.symm⟩
  · exact ⟨X,h1,h2⟩
theorem split_r {A D L R:List TOp} {t:Int} (h:L++R=A++D) (hL : ∀ x∈L,x.time<t) (hD : ∀ x∈D,t<x.time) : ∃ A',A=L++A'∧R=A'++D:=by
  rcases List.append_eq_append_iff.1 h with ⟨X,h1,h2⟩ | ⟨X,h1,h2⟩
  · exact ⟨X,h1,h2⟩
  · have : X = [] := by
      cases X with
      | nil => rfl
      | cons x X =>
        have h3:=hL x (by rw [h1];simp)
        have h4:=hD x (by rw [h2];simp)
        omega
    subst this
    exact ⟨[],by simpa using h1.symm,by simpa using h2.symm⟩
theorem Fresh.sub {c c':Int} {o:TOp} {os os':List TOp} (h:Fresh c o os) (hs : ∀ x∈os',x∈os) (hl:os'.length≤os.length) (hc:(os.length:Int)≤c):Fresh c o os' :=
  ⟨by have:=h.room;omega,by have:=h.lim;omega,fun h1 y hy h2=>h.item h1 y (hs y hy) h2,h.del⟩
def NLp (tm:Int):PQ→Prop
  | .nil => True
  | .node o _ l r _ _ => if tm < o.time then NLp tm l ∧ NL r else NL l ∧ NLp tm r
theorem NL.p (tm:Int) : ∀ {t:PQ},NL t→NLp tm t
  | .nil, _ => trivial
  | .node o g l r n q, ⟨_, h1, h2⟩ => by
    unfold NLp
    split
    · exact ⟨NL.p tm h1,h2⟩
    · exact ⟨h1,NL.p tm h2⟩
theorem put_past (c : Int) (hc2 : c ≤ 65536) (o : TOp) (B : Nat) (hB : B + 2 < 900000) (hB2 : 2 ≤ B) : ∀ (n : Nat) (t : PQ) (A D : List TOp), cnt t < n → PTok c B t → STm t → live t = A ++ D → (∀ x ∈ A, x.time < o.time) → (∀ x ∈ D, o.time < x.time) → Fresh c o (A ++ D) → (((A ++ D).length : Nat) : Int) ≤ c → cnt t < 100000 →
    ∃ t',past_Past_put.r K1 n c t o=some t'∧PTok c (B+2) t'∧STm t'∧live t'=A++o::D∧(∀ x∈tim t',x=o.time∨x∈tim t)∧(∀ x∈tim t,x∈tim t')∧cnt t≤cnt t'∧cnt t'≤cnt t+1∧(NG t→NG t')∧(NL t→NLp o.time t')
  | 0, t, A, D, h, _, _, _, _, _, _, _, _ => by omega
  | n + 1, .nil, A, D, hn, ht, hs, hv, hA, hD, hf, hc, hbig => by
    have hAD:A=[]∧D=[]:=by simpa [live] using hv.symm
    obtain ⟨rfl,rfl⟩:=hAD
    have h1:(1:Int)≤c:=by have:=hf.room;simp at this hc;omega
    have ho:OpsOkL [o]:=⟨List.pairwise_singleton _ _,List.pairwise_singleton _ _,fun x hx hi=>by rw [List.mem_singleton.1 hx] at hi ⊢;exact hf.del hi⟩
    obtain ⟨t',a1,a2,a3,a4,a5,a6,a7⟩:=build_ok c hc2 K1 [o] (by show 1<K1;unfold K1;omega) ho (by simpa using h1) (by show 1<100;omega)
    have hcn:cnt t'=1:=by rw [← live_ng t' a5,a3];rfl
    refine ⟨t',?_,a2.up (by show 2*1≤B+2;omega) hB,(by show (tim t').Pairwise _;rw [a4];exact List.pairwise_singleton _ _),(by simpa using a3),fun x hx=>.inl (by rw [a4] at hx;simpa using hx),(fun x hx=>by cases hx),Nat.zero_le _,(by rw [hcn];exact Nat.le_refl _),fun _=>a5,fun _=>a6.p _⟩
    show (past_Past_build.f K1 c [o]).bind (fun x1=>some x1)=some t'
    unfold past_Past_build.f
    rw [a1];rfl
  | n + 1, .node p g l r m q, A, D, hn, ⟨hq, hm, hl, hr⟩, hs, hv, hA, hD, hf, hc, hbig => by
    obtain ⟨s1,s2,s3,s4⟩:=hs.parts
    have hcn:cnt (PT.node p g l r m q)=cnt l+1+cnt r:=rfl
    rw [hcn] at hn hbig
    obtain ⟨q',r1,r2⟩:=add_ok (hv▸hq) hA hD hf hB
    have hvt:live l++((bif g then [] else [p])++live r)=A++D:=hv
    have pmem : ∀ x∈(bif g then [] else [p]:List TOp),x=p:=fun x hx=>by cases g <;> simp at hx;exact hx
    have szl:=size_ok hl
    have szr:=size_ok hr
    have w1 : ∀ a b:Nat,a+1+b<1000000→w64 (w64 ((a:Int)+1)+(b:Int))=((a+1+b:Nat):Int):=fun a b h=>by
      rw [w64_succ (by omega),w64_id (by omega) (by omega)];omega
    by_cases c1:o.time<p.time
    · obtain ⟨D', d1, d2⟩ := split_l hvt hA (t := o.time) (fun x hx => by
        rcases List.mem_append.1 hx with hx | hx
        · rw [pmem x hx];exact c1
        · have:=s4 _ (live_tim r x hx);omega)
      have hsub : ∀ x∈A++D',x∈A++D:=fun x hx=>by rw [d2];rcases List.mem_append.1 hx with hx | hx <;> simp [hx]
      have hlen:(A++D').length≤(A++D).length:=by rw [d2];simp only [List.length_append];omega
      obtain ⟨l',e1,e2,e3,e4,e5,e6,e7,e8,e9,e10⟩:=put_past c hc2 o B hB hB2 n l A D' (by omega) hl s1 d1 hA (fun x hx=>hD x (by rw [d2];simp [hx])) (hf.sub (c':=c) hsub hlen hc) (by omega) (by omega)
      have hlv:live (PT.node p g l' r ((cnt l'+1+cnt r:Nat):Int) q')=A++o::D:=by
        show live l'++_=_
        rw [e4,d2];simp
      refine ⟨PT.node p g l' r ((cnt l'+1+cnt r:Nat):Int) q',?_,⟨by rw [hlv];exact r2,rfl,e2,hr.up (by omega) hB⟩,STm.mk e3 s2 (fun x hx=>?_) s4,hlv,fun x hx=>?_,fun x hx=>?_,?_,?_,fun h=>⟨h.1,e9 h.2.1,h.2.2⟩,fun h=>?_⟩
      · simp only [past_Past_put.r,PT.isNil,cond_false,PT.q,r1,Option.bind_some,PT.op,PT.lf,PT.rt,PT.gone]
        simp only [c1,decide_true,cond_true,e1,Option.bind_some,size_ok e2,szr]
        rw [w1 _ _ (by omega)]
      · rcases e5 x hx with rfl | h
        · exact c1
        · exact s3 x h
      · simp only [tim,List.mem_append,List.mem_cons] at hx ⊢
        rcases hx with hx | hx
        · rcases e5 x hx with h | h
          · exact .inl h
          · exact .inr (.inl h)
        · exact .inr (.inr hx)
      · simp only [tim,List.mem_append,List.mem_cons] at hx ⊢
        rcases hx with hx | hx
        · exact .inl (e6 x hx)
        · exact .inr hx
      · show cnt l+1+cnt r≤cnt l'+1+cnt r;omega
      · show cnt l'+1+cnt r≤cnt l+1+cnt r+1;omega
      · unfold NLp
        rw [if_pos c1]
        exact ⟨e10 h.2.1,h.2.2⟩
    · by_cases c2:o.time>p.time
      · have hvt2:(live l++(bif g then [] else [p]))++live r=A++D:=by rw [← hvt,List.append_assoc]
        obtain ⟨A',d1,d2⟩:=split_r hvt2 (t:=o.time) (fun x hx=>by
          rcases List.mem_append.1 hx with hx | hx
          · have:=s3 _ (live_tim l x hx);omega
          · rw [pmem x hx];exact c2) hD
        have hsub : ∀ x∈A'++D,x∈A++D:=fun x hx=>by rw [d1];rcases List.mem_append.1 hx with hx | hx <;> simp [hx]
        have hlen:(A'++D).length≤(A++D).length:=by rw [d1];simp only [List.length_append];omega
        obtain ⟨r',e1,e2,e3,e4,e5,e6,e7,e8,e9,e10⟩:=put_past c hc2 o B hB hB2 n r A' D (by omega) hr s2 d2 (fun x hx=>hA x (by rw [d1];simp [hx])) hD (hf.sub (c':=c) hsub hlen hc) (by omega) (by omega)
        have hlv:live (PT.node p g l r' ((cnt l+1+cnt r':Nat):Int) q')=A++o::D:=by
          show live l++((bif g then [] else [p])++live r')=_
          rw [e4,d1];simp
        refine ⟨PT.node p g l r' ((cnt l+1+cnt r':Nat):Int) q',?_,⟨by rw [hlv];exact r2,rfl,hl.up (by omega) hB,e2⟩,STm.mk s1 e3 s3 (fun x hx=>?_),hlv,fun x hx=>?_,fun x hx=>?_,?_,?_,fun h=>⟨h.1,h.2.1,e9 h.2.2⟩,fun h=>?_⟩
        · simp only [past_Past_put.r,PT.isNil,cond_false,PT.q,r1,Option.bind_some,PT.op,PT.lf,PT.rt,PT.gone]
          simp only [c1,c2,decide_false,decide_true,cond_true,cond_false,e1,Option.bind_some,size_ok e2,szl]
          rw [w1 _ _ (by omega)]
        · rcases e5 x hx with rfl | h
          · exact c2
          · exact s4 x h
        · simp only [tim,List.mem_append,List.mem_cons] at hx ⊢
          rcases hx with hx | hx | hx
          · exact .inr (.inl hx)
          · exact .inr (.inr (.inl hx))
          · rcases e5 x hx with h | h
            · exact .inl h
            · exact .inr (.inr (.inr h))
        · simp only [tim,List.mem_append,List.mem_cons] at hx ⊢
          rcases hx with hx | hx | hx
          · exact .inl hx
          · exact .inr (.inl hx)
          · exact .inr (.inr (e6 x hx))
        · show cnt l+1+cnt r≤cnt l+1+cnt r';omega
        · show cnt l+1+cnt r'≤cnt l+1+cnt r+1;omega
        · unfold NLp
          rw [if_neg c1]
          exact ⟨h.2.1,e10 h.2.2⟩
      · have c3:o.time=p.time:=by omega
        -- the node's own operation is gone
        have hg:g=true:=by
          cases g with
          | true => rfl
          | false =>
            exfalso
            have:p∈A++D:=by rw [← hvt];simp
            rcases List.mem_append.1 this with h | h
            · have:=hA p h;omega
            · have:=hD p h;omega
        subst hg
        have hvt3:live l++live r=A++D:=hvt
        obtain ⟨A',d1,d2⟩:=split_r hvt3 (t:=o.time) (fun x hx=>by have:=s3 _ (live_tim l x hx);omega) hD
        have hA':A'=[]:=by
          cases A' with
          | nil => rfl
          | cons x A' =>
            have h3:=hA x (by rw [d1];simp)
            have h4:=s4 _ (live_tim r x (by rw [d2];simp))
            omega
        subst hA'
        simp only [List.append_nil,List.nil_append] at d1 d2
        subst d1;subst d2
        refine ⟨PT.node o false l r ((cnt l+1+cnt r:Nat):Int) q',?_,⟨r2,rfl,hl.up (by omega) hB,hr.up (by omega) hB⟩,STm.mk s1 s2 (fun x hx=>by rw [c3];exact s3 x hx) (fun x hx=>by rw [c3];exact s4 x hx),rfl,fun x hx=>?_,fun x hx=>?_,Nat.le_refl _,Nat.le_succ _,fun h=>⟨rfl,h.2.1,h.2.2⟩,fun h=>?_⟩
        · simp only [past_Past_put.r,PT.isNil,cond_false,PT.q,r1,Option.bind_some,PT.op,PT.lf,PT.rt,PT.gone]
          simp only [c1,c2,decide_false,cond_false,Option.bind_some,szl,szr]
          rw [w1 _ _ (by omega)]
        · simp only [tim,List.mem_append,List.mem_cons] at hx ⊢
          rcases hx with hx | hx | hx
          · exact .inr (.inl hx)
          · exact .inl hx
          · exact .inr (.inr (.inr hx))
        · simp only [tim,List.mem_append,List.mem_cons] at hx ⊢
          rcases hx with hx | hx | hx
          · exact .inl hx
          · exact .inr (.inl (by rw [hx,c3]))
          · exact .inr (.inr hx)
        · unfold NLp
          rw [if_neg (by omega)]
          exact ⟨h.2.1,h.2.2.p _⟩
theorem even_past (c : Int) (hc2 : c ≤ 65536) (tm : Int) (B : Nat) (hB : B < 900000) (hB2 : 200 ≤ B) : ∀ (n : Nat) (t : PQ), cnt t < n → PTok c B t → STm t → cnt t < 100000 → (live t).length < 100 →
    ∃ t',past_Past_even.r K1 n c t tm=some t'∧PTok c B t'∧STm t'∧live t'=live t∧(∀ x∈tim t',x∈tim t)∧cnt t'≤cnt t∧(NG t→NG t'∧cnt t'=cnt t)∧(NG t→NLp tm t→NL t')
  | 0, t, h, _, _, _, _ => by omega
  | n + 1, .nil, hn, ht, hs, hbig, hl100 => ⟨.nil, rfl, trivial, List.Pairwise.nil, rfl, (fun x hx => by cases hx), Nat.le_refl _, fun _ => ⟨trivial, rfl⟩, fun _ _ => trivial⟩
  | n + 1, .node p g l r m q, hn, ⟨hq, hm, hl, hr⟩, hs, hbig, hl100 => by
    obtain ⟨s1,s2,s3,s4⟩:=hs.parts
    have hcn:cnt (PT.node p g l r m q)=cnt l+1+cnt r:=rfl
    rw [hcn] at hn hbig
    have szl:=size_ok hl
    have szr:=size_ok hr
    have hlv:live (PT.node p g l r m q)=live l++((bif g then [] else [p])++live r):=rfl
    have hll:(live l).length<100:=by rw [hlv] at hl100;simp at hl100;omega
    have hrl:(live r).length<100:=by rw [hlv] at hl100;simp at hl100;omega
    have w1 : ∀ a b:Nat,a+1+b<1000000→w64 (w64 ((a:Int)+1)+(b:Int))=((a+1+b:Nat):Int):=fun a b h=>by
      rw [w64_succ (by omega),w64_id (by omega) (by omega)];omega
    have hlean:past_node_leans.f K1 (PT.node p g l r m q)=some (decide (3*max (cnt l) (cnt r)>2*(cnt l+1+cnt r)+1)):=by
      have gm:gmax (cnt l:Int) (cnt r:Int)=((max (cnt l) (cnt r):Nat):Int):=by unfold gmax;split <;> omega
      simp only [past_node_leans.f,PT.isNil,PT.lf,PT.rt,PT.n,szl,szr,Option.bind_some,hm,gm]
      simp only [decide_true,cond_true]
      have e1:w64 (3*((max (cnt l) (cnt r):Nat):Int))=3*((max (cnt l) (cnt r):Nat):Int):=w64_id (by omega) (by omega)
      have e2:w64 (2*((cnt l+1+cnt r:Nat):Int))=2*((cnt l+1+cnt r:Nat):Int):=w64_id (by omega) (by omega)
      have e3:w64 (2*((cnt l+1+cnt r:Nat):Int)+1)=2*((cnt l+1+cnt r:Nat):Int)+1:=w64_id (by omega) (by omega)
      rw [e1,e2,e3]
      congr 1
      apply decide_eq_decide.2
      omega
    by_cases hle:3*max (cnt l) (cnt r)>2*(cnt l+1+cnt r)+1
    · obtain ⟨t',a1,a2,a3,a4,a5,a6,a7⟩:=build_ok c hc2 K1 (live (PT.node p g l r m q)) (by unfold K1;omega) hq.okl hq.lim.2.1 hl100
      have hsub : ∀ x∈tim t',x∈tim (PT.node p g l r m q):=fun x hx=>by
        rw [a4] at hx
        obtain ⟨y,hy,rfl⟩:=List.mem_map.1 hx
        exact live_tim _ y hy
      have hct:cnt t'=(live (PT.node p g l r m q)).length:=by rw [← live_ng t' a5,a3]
      refine ⟨t',?_,a2.up (by omega) hB,?_,a3,hsub,by rw [hct];exact live_len _,fun h=>⟨a5,by rw [hct];exact live_ng _ h⟩,fun _ _=>a6⟩
      · simp only [past_Past_even.r,PT.isNil,cond_false,hlean,Option.bind_some,PT.q]
        simp only [hle,decide_true,cond_true,hq.ops,Option.bind_some]
        unfold past_Past_build.f
        rw [a1];rfl
      · show (tim t').Pairwise _
        rw [a4];exact List.pairwise_map.2 hq.okl.time
    · by_cases c1:tm<p.time
      · obtain ⟨l',e1,e2,e3,e4,e5,e6,e7,e8⟩:=even_past c hc2 tm B hB hB2 n l (by omega) hl s1 (by omega) hll
        have hlv':live (PT.node p g l' r ((cnt l'+1+cnt r:Nat):Int) q)=live (PT.node p g l r m q):=by
          show live l'++_=live l++_
          rw [e4]
        refine ⟨PT.node p g l' r ((cnt l'+1+cnt r:Nat):Int) q,?_,⟨by rw [hlv'];exact hq,rfl,e2,hr⟩,STm.mk e3 s2 (fun x hx=>s3 x (e5 x hx)) s4,hlv',fun x hx=>?_,?_,fun h=>⟨⟨h.1,(e7 h.2.1).1,h.2.2⟩,?_⟩,fun h h2=>?_⟩
        · simp only [past_Past_even.r,PT.isNil,cond_false,hlean,Option.bind_some,PT.op,PT.lf,PT.rt,PT.gone,PT.q]
          simp only [hle,c1,decide_false,decide_true,cond_true,cond_false,e1,Option.bind_some,size_ok e2,szr]
          rw [w1 _ _ (by omega)]
        · simp only [tim,List.mem_append,List.mem_cons] at hx ⊢
          rcases hx with hx | hx
          · exact .inl (e5 x hx)
          · exact .inr hx
        · show cnt l'+1+cnt r≤cnt l+1+cnt r;omega
        · show cnt l'+1+cnt r=cnt l+1+cnt r
          rw [(e7 h.2.1).2]
        · unfold NLp at h2
          rw [if_pos c1] at h2
          have:=(e7 h.2.1).2
          exact ⟨by omega,e8 h.2.1 h2.1,h2.2⟩
      · obtain ⟨r',e1,e2,e3,e4,e5,e6,e7,e8⟩:=even_past c hc2 tm B hB hB2 n r (by omega) hr s2 (by omega) hrl
        have hlv':live (PT.node p g l r' ((cnt l+1+cnt r':Nat):Int) q)=live (PT.node p g l r m q):=by
          show live l++((bif g then [] else [p])++live r')=live l++((bif g then [] else [p])++live r)
          rw [e4]
        refine ⟨PT.node p g l r' ((cnt l+1+cnt r':Nat):Int) q,?_,⟨by rw [hlv'];exact hq,rfl,hl,e2⟩,STm.mk s1 e3 s3 (fun x hx=>s4 x (e5 x hx)),hlv',fun x hx=>?_,?_,fun h=>⟨⟨h.1,h.2.1,(e7 h.2.2).1⟩,?_⟩,fun h h2=>?_⟩
        · simp only [past_Past_even.r,PT.isNil,cond_false,hlean,Option.bind_some,PT.op,PT.lf,PT.rt,PT.gone,PT.q]
          simp only [hle,c1,decide_false,cond_false,e1,Option.bind_some,size_ok e2,szl]
          rw [w1 _ _ (by omega)]
        · simp only [tim,List.mem_append,List.mem_cons] at hx ⊢
          rcases hx with hx | hx | hx
          · exact .inl hx
          · exact .inr (.inl hx)
          · exact .inr (.inr (e5 x hx))
        · show cnt l+1+cnt r'≤cnt l+1+cnt r;omega
        · show cnt l+1+cnt r'=cnt l+1+cnt r
          rw [(e7 h.2.2).2]
        · unfold NLp at h2
          rw [if_neg c1] at h2
          have:=(e7 h.2.2).2
          exact ⟨by omega,h2.1,e8 h.2.2 h2.2⟩
end Go.Proofs.YtgjbibabegabnaaGreat
namespace Go.Proofs.YtgjbibabegabnaaGreat
open Go Go.Proofs.YtgjbibabegabnaaGreat.Sx
structure PastOk (c:Int) (B:Nat) (p:TPast):Prop where
  cap:p.capacity=c
  ok:PTok c B p.root
  st:STm p.root
theorem insert_past {c : Int} (hc2 : c ≤ 65536) {B : Nat} {p : TPast} (hB : 200 ≤ B) (hB9 : B + 6 < 900000) (h : PastOk c B p) {o : TOp} {A D : List TOp} (hv : live p.root = A ++ D) (hA : ∀ x ∈ A, x.time < o.time) (hD : ∀ x ∈ D, o.time < x.time) (hf : Fresh c o (A ++ D)) (hc : (((A ++ D).length : Nat) : Int) ≤ c) (hbig : cnt p.root < 90000) (hl99 : (A ++ D).length < 99) :
    ∃ p',past_Past_insert.f K1 p o=some (0,p')∧PastOk c (B+6) p'∧live p'.root=A++o::D∧(∀ x∈tim p'.root,x=o.time∨x∈tim p.root)∧cnt p'.root≤cnt p.root+1∧(NG p.root→NG p'.root)∧(NG p.root→NL p.root→NL p'.root):=by
  obtain ⟨hcap,hok,hst⟩:=h
  obtain ⟨pc,t⟩:=p
  simp only at hcap hok hst hv hbig
  subst hcap
  cases t with
  | nil =>
    have hAD:A=[]∧D=[]:=by simpa [live] using hv.symm
    obtain ⟨rfl,rfl⟩:=hAD
    have h1:(1:Int)≤pc:=by have:=hf.room;simp at this hc;omega
    obtain ⟨q0,a1,a2⟩:=queue_ok [] ⟨List.Pairwise.nil,List.Pairwise.nil,fun o ho=>by cases ho⟩ pc (by simpa using hc) hc2 (by show 0<100;omega)
    obtain ⟨q1,b1,b2⟩:=add_ok (A:=[]) (D:=[]) (o:=o) a2 hA hD hf (by show 2*0+2<900000;omega)
    have ho:OpsOkL [o]:=⟨List.pairwise_singleton _ _,List.pairwise_singleton _ _,fun x hx hi=>by rw [List.mem_singleton.1 hx] at hi ⊢;exact hf.del hi⟩
    obtain ⟨t',d1,d2,d3,d4,d5,d6,d7⟩:=build_ok pc hc2 K1 [o] (by show 1<K1;unfold K1;omega) ho (by simpa using h1) (by show 1<100;omega)
    have hcn:cnt t'=1:=by rw [← live_ng t' d5,d3];rfl
    refine ⟨⟨pc,t'⟩,?_,⟨rfl,d2.up (by show 2*1≤B+6;omega) hB9,(by show (tim t').Pairwise _;rw [d4];exact List.pairwise_singleton _ _)⟩,(by simpa using d3),fun x hx=>.inl (by rw [d4] at hx;simpa using hx),(by show cnt t'≤0+1;omega),fun _=>d5,fun _ _=>d6⟩
    simp only [past_Past_insert.f,PT.isNil,cond_true,a1,b1,Option.bind_some]
    unfold past_Past_build.f
    rw [d1];rfl
  | node p g l r m q =>
    obtain ⟨hq,hm,hl,hr⟩:=hok
    obtain ⟨q1,a1,a2⟩:=add_ok (hv▸hq) hA hD hf (by omega)
    obtain ⟨ch,q2,b1,b2⟩:=rev_ok a2 hA hD (by omega)
    have hlv:live (PT.node p g l r m q2)=A++D:=hv
    have hok2:PTok pc (B+4) (PT.node p g l r m q2):=⟨by rw [hlv];exact b2,hm,hl.up (by omega) (by omega),hr.up (by omega) (by omega)⟩
    have hst2:STm (PT.node p g l r m q2):=hst
    have hcn:cnt (PT.node p g l r m q2)=cnt l+1+cnt r:=rfl
    have hcn1:cnt (PT.node p g l r m q)=cnt l+1+cnt r:=rfl
    obtain ⟨t1,e1,e2,e3,e4,e5,e6,e7,e8,e9,e10⟩:=put_past pc hc2 o (B+4) (by omega) (by omega) K1 _ A D (by unfold K1;omega) hok2 hst2 hlv hA hD hf hc (by omega)
    have hl1:(live t1).length<100:=by rw [e4];simp at hl99 ⊢;omega
    obtain ⟨t2,f1,f2,f3,f4,f5,f6,f7,f8⟩:=even_past pc hc2 o.time (B+6) (by omega) (by omega) K1 t1 (by unfold K1;omega) e2 e3 (by omega) hl1
    have n0:((0:Int) != 0)=false:=rfl
    refine ⟨⟨pc,t2⟩,?_,⟨rfl,f2,f3⟩,by rw [f4,e4],fun x hx=>e5 x (f5 x hx),(by show cnt t2≤cnt (PT.node p g l r m q:PQ)+1;omega),fun h=>(f7 (e9 h)).1,fun h h2=>f8 (e9 h) (e10 h2)⟩
    simp only [past_Past_insert.f,PT.isNil,cond_false,PT.q,a1,Option.bind_some,n0,b1,PT.op,PT.gone,PT.lf,PT.rt,PT.n]
    unfold past_Past_put.f past_Past_even.f
    rw [e1,Option.bind_some,f1];rfl
theorem revoke_loop (c : Int) (o : TOp) (B : Nat) (hB9 : B + 2 < 900000) : ∀ (n : Nat) (p : TOp) (g : Bool) (l r : PQ) (m : Int) (q : TQueue) (A D : List TOp) (path : List (PF TOp TQueue)), cnt (PT.node p g l r m q : PQ) < n → PTok c B l → PTok c B r → STm (PT.node p g l r m q : PQ) → m = ((cnt l + 1 + cnt r : Nat) : Int) → live (PT.node p g l r m q) = A ++ o :: D → QIs c (B + 2) q (A ++ D) → (∀ x ∈ A, x.time < o.time) → (∀ x ∈ D, o.time < x.time) →
    ∃ t1 path1,past_Past_Revoke.l0 K1 o.time n (PT.node p g l r m q,path)=some (t1,path1)∧t1.isNil=false∧∃ t':PQ,plug path1 (PT.node t1.op true t1.lf t1.rt t1.n t1.q)=plug path t'∧PTok c (B+2) t'∧tim t'=tim (PT.node p g l r m q:PQ)∧live t'=A++D∧cnt t'=cnt (PT.node p g l r m q:PQ)∧(NL (PT.node p g l r m q:PQ)→NL t')∧t'.isNil=false
  | 0, p, g, l, r, m, q, A, D, path, h, _, _, _, _, _, _, _, _ => by omega
  | n + 1, p, g, l, r, m, q, A, D, path, hn, hl, hr, hs, hm, hv, hq, hA, hD => by
    obtain ⟨s1,s2,s3,s4⟩:=hs.parts
    have hcn:cnt (PT.node p g l r m q:PQ)=cnt l+1+cnt r:=rfl
    rw [hcn] at hn
    have hvt:live l++((bif g then [] else [p])++live r)=A++(o::D):=hv
    have pmem : ∀ x∈(bif g then [] else [p]:List TOp),x=p:=fun x hx=>by cases g <;> simp at hx;exact hx
    simp only [past_Past_Revoke.l0,PT.isNil,PT.op,decide_true,cond_true]
    by_cases c0:p.time=o.time
    · have e0:(p.time != o.time)=false:=by simp [c0]
      simp only [e0,cond_false]
      -- the operation is the node's own
      have hlt : ∀ x∈live l,x.time<o.time:=fun x hx=>by have:=s3 _ (live_tim l x hx);omega
      have hgt : ∀ x∈live r,o.time<x.time:=fun x hx=>by have:=s4 _ (live_tim r x hx);omega
      have hDo : ∀ x∈o::D,x.time≥o.time:=fun x hx=>by
        rcases List.mem_cons.1 hx with rfl | hx
        · exact Int.le_refl _
        · have:=hD x hx;omega
      have hsp:A=live l∧o::D=(bif g then [] else [p])++live r:=by
        rcases List.append_eq_append_iff.1 hvt with ⟨X,h1,h2⟩ | ⟨X,h1,h2⟩
        · have : X = [] := by
            cases X with
            | nil => rfl
            | cons x X =>
              have h3:=hA x (by rw [h1];simp)
              have h4:x∈(bif g then [] else [p])++live r:=by rw [h2];simp
              rcases List.mem_append.1 h4 with h5 | h5
              · have:=pmem x h5;subst this;omega
              · have:=hgt x h5;omega
          subst this
          exact ⟨by simpa using h1,by simpa using h2.symm⟩
        · have : X = [] := by
            cases X with
            | nil => rfl
            | cons x X =>
              have h3:=hlt x (by rw [h1];simp)
              have h4:=hDo x (by rw [h2];simp)
              omega
          subst this
          exact ⟨by simpa using h1.symm,by simpa using h2⟩
      have hg:g=false:=by
        cases g with
        | false => rfl
        | true =>
          exfalso
          have h1:=hsp.2
          simp only [cond_true,List.nil_append] at h1
          have:=hgt o (by rw [← h1];simp)
          omega
      subst hg
      have h2:o::D=p::live r:=hsp.2
      injection h2 with h3 h4
      refine ⟨_,path,rfl,rfl,PT.node p true l r m q,rfl,⟨?_,hm,hl.up (by omega) hB9,hr.up (by omega) hB9⟩,rfl,?_,rfl,fun h=>h,rfl⟩
      · show QIs c (B+2) q (live l++([]++live r))
        rw [List.nil_append,← hsp.1,← h4];exact hq
      · show live l++([]++live r)=_
        rw [List.nil_append,← hsp.1,← h4]
    · have e0:(p.time != o.time)=true:=by simp [c0]
      simp only [e0,cond_true]
      by_cases c1:o.time<p.time
      · -- left
        have hR : ∀ x∈(bif g then [] else [p])++live r,o.time<x.time:=fun x hx=>by
          rcases List.mem_append.1 hx with hx | hx
          · rw [pmem x hx];exact c1
          · have:=s4 _ (live_tim r x hx);omega
        obtain ⟨D',d1,d2⟩ : ∃ D',live l=A++o::D'∧D=D'++((bif g then [] else [p])++live r):=by
          have hvt':live l++((bif g then [] else [p])++live r)=(A++[o])++D:=by rw [hvt];simp
          rcases List.append_eq_append_iff.1 hvt' with ⟨X,h1,h2⟩ | ⟨X,h1,h2⟩
          · have : X = [] := by
              cases X with
              | nil => rfl
              | cons x X =>
                exfalso
                have h4:=hR x (by rw [h2];simp)
                have h5:x∈A++[o]:=by rw [h1];simp
                rcases List.mem_append.1 h5 with h5 | h5
                · have:=hA x h5;omega
                · rw [List.mem_singleton.1 h5] at h4;omega
            subst this
            refine ⟨[],?_,by simpa using h2.symm⟩
            have:live l=A++[o]:=by simpa using h1.symm
            exact this
          · exact ⟨X,by rw [h1];simp,h2⟩
        cases l with
        | nil => simp [live] at d1
        | node pl gl ll lr ml ql =>
          obtain ⟨hql,hml,hll,hlr⟩:=hl
          rw [d1] at hql
          have hD' : ∀ x∈D',o.time<x.time:=fun x hx=>hD x (by rw [d2];simp [hx])
          obtain ⟨ch,ql',r1,r2⟩:=rev_ok hql hA hD' hB9
          obtain ⟨t1,path1,f1,f2,tl',f3,f4,f5,f6,f7,f8,f9⟩:=revoke_loop c o B hB9 n pl gl ll lr ml ql' A D' (PF.mk p g m q true r::path) (by have:cnt (PT.node pl gl ll lr ml ql':PQ)=cnt (PT.node pl gl ll lr ml ql:PQ):=rfl;omega) hll hlr s1 hml d1 r2 hA hD'
          have hlv:live (PT.node p g tl' r m q)=A++D:=by
            show live tl'++_=_
            rw [f6,d2];simp
          have f7':cnt tl'=cnt (PT.node pl gl ll lr ml ql:PQ):=f7
          have f5':tim tl'=tim (PT.node pl gl ll lr ml ql:PQ):=f5
          refine ⟨t1,path1,?_,f2,PT.node p g tl' r m q,?_,⟨by rw [hlv];exact hq,by rw [hm,f7'],f4,hr.up (by omega) hB9⟩,?_,hlv,?_,fun h=>⟨by rw [f7'];exact h.1,f8 h.2.1,h.2.2⟩,rfl⟩
          · simp only [c1,decide_true,cond_true,PT.lf,PT.isNil,PT.q,r1,Option.bind_some,PT.op,PT.gone,PT.rt,PT.n]
            exact f1
          · exact f3
          · show tim tl'++_=tim (PT.node pl gl ll lr ml ql:PQ)++_
            rw [f5']
          · show cnt tl'+1+cnt r=cnt (PT.node pl gl ll lr ml ql:PQ)+1+cnt r
            rw [f7']
      · -- right
        have c2:p.time<o.time:=by omega
        have hL : ∀ x∈live l++(bif g then [] else [p]),x.time<o.time:=fun x hx=>by
          rcases List.mem_append.1 hx with hx | hx
          · have:=s3 _ (live_tim l x hx);omega
          · rw [pmem x hx];exact c2
        have hvt2:(live l++(bif g then [] else [p]))++live r=A++o::D:=by rw [← hvt,List.append_assoc]
        obtain ⟨A',d1,d2⟩ : ∃ A',A=(live l++(bif g then [] else [p]))++A'∧live r=A'++o::D:=by
          rcases List.append_eq_append_iff.1 hvt2 with ⟨X,h1,h2⟩ | ⟨X,h1,h2⟩
          · exact ⟨X,h1,h2⟩
          · have : X = [] := by
              cases X with
              | nil => rfl
              | cons x X =>
                exfalso
                have h3:=hL x (by rw [h1];simp)
                have h4:x∈o::D:=by rw [h2];simp
                rcases List.mem_cons.1 h4 with h5 | h5
                · rw [h5] at h3;omega
                · have:=hD x h5;omega
            subst this
            exact ⟨[],by simpa using h1.symm,by simpa using h2.symm⟩
        cases r with
        | nil => simp [live] at d2
        | node pr gr rl rr mr qr =>
          obtain ⟨hqr,hmr,hrl,hrr⟩:=hr
          rw [d2] at hqr
          have hA' : ∀ x∈A',x.time<o.time:=fun x hx=>hA x (by rw [d1];simp [hx])
          obtain ⟨ch,qr',r1,r2⟩:=rev_ok hqr hA' hD hB9
          obtain ⟨t1,path1,f1,f2,tr',f3,f4,f5,f6,f7,f8,f9⟩:=revoke_loop c o B hB9 n pr gr rl rr mr qr' A' D (PF.mk p g m q false l::path) (by have:cnt (PT.node pr gr rl rr mr qr':PQ)=cnt (PT.node pr gr rl rr mr qr:PQ):=rfl;omega) hrl hrr s2 hmr d2 r2 hA' hD
          have hlv:live (PT.node p g l tr' m q)=A++D:=by
            show live l++((bif g then [] else [p])++live tr')=_
            rw [f6,d1];simp
          have f7':cnt tr'=cnt (PT.node pr gr rl rr mr qr:PQ):=f7
          have f5':tim tr'=tim (PT.node pr gr rl rr mr qr:PQ):=f5
          refine ⟨t1,path1,?_,f2,PT.node p g l tr' m q,?_,⟨by rw [hlv];exact hq,by rw [hm,f7'],hl.up (by omega) hB9,f4⟩,?_,hlv,?_,fun h=>⟨by rw [f7'];exact h.1,h.2.1,f8 h.2.2⟩,rfl⟩
          · simp only [c1,decide_false,cond_false,decide_true,cond_true,PT.lf,PT.isNil,PT.q,r1,Option.bind_some,PT.op,PT.gone,PT.rt,PT.n]
            exact f1
          · exact f3
          · show tim l++(p.time::tim tr')=tim l++(p.time::tim (PT.node pr gr rl rr mr qr:PQ))
            rw [f5']
          · show cnt l+1+cnt tr'=cnt l+1+cnt (PT.node pr gr rl rr mr qr:PQ)
            rw [f7']
theorem revoke_past {c : Int} (hc2 : c ≤ 65536) {B : Nat} {p : TPast} (hB : 200 ≤ B) (hB9 : B + 2 < 900000) (h : PastOk c B p) {o : TOp} {A D : List TOp} (hv : live p.root = A ++ o :: D) (hA : ∀ x ∈ A, x.time < o.time) (hD : ∀ x ∈ D, o.time < x.time) (hbig : cnt p.root < 90000) (hl99 : (A ++ D).length < 99) :
    ∃ p',past_Past_Revoke.f K1 p o.time=some (0,p')∧PastOk c (B+2) p'∧live p'.root=A++D∧(∀ x∈tim p'.root,x∈tim p.root)∧cnt p'.root≤cnt p.root∧cnt p'.root≤2*(A++D).length∧(NL p.root→NL p'.root):=by
  obtain ⟨hcap,hok,hst⟩:=h
  obtain ⟨pc,t⟩:=p
  simp only at hcap hok hst hv hbig
  subst hcap
  cases t with
  | nil => simp [live] at hv
  | node p g l r m q =>
    obtain ⟨hq,hm,hl,hr⟩:=hok
    rw [hv] at hq
    obtain ⟨ch,q1,a1,a2⟩:=rev_ok hq hA hD hB9
    have hcn:cnt (PT.node p g l r m q:PQ)=cnt l+1+cnt r:=rfl
    have hcn1:cnt (PT.node p g l r m q1:PQ)=cnt l+1+cnt r:=rfl
    obtain ⟨t1,path1,f1,f2,t',f3,f4,f5,f6,f7,f8,f9⟩:=revoke_loop pc o B hB9 K1 p g l r m q1 A D [] (by unfold K1;omega) hl hr hst hm hv a2 hA hD
    rcases t1 with _ | ⟨o1,g1,l1,r1,m1,qq1⟩
    · cases f2
    rcases t' with _ | ⟨o2,g2,l2,r2,m2,q2⟩
    · cases f9
    have hpl:plug path1 (PT.node o1 true l1 r1 m1 qq1)=PT.node o2 g2 l2 r2 m2 q2:=f3
    have n0:((0:Int) != 0)=false:=rfl
    have hqt:QIs pc (B+2) q2 (A++D):=by rw [← f6];exact f4.1
    have hnt:m2=(cnt (PT.node o2 g2 l2 r2 m2 q2:PQ):Int):=f4.2.1
    have hst':STm (PT.node o2 g2 l2 r2 m2 q2:PQ):=by show (tim (PT.node o2 g2 l2 r2 m2 q2:PQ)).Pairwise _;rw [f5];exact hst
    have e2:w64 (2*(((A++D).length:Nat):Int))=2*(((A++D).length:Nat):Int):=w64_id (by omega) (by omega)
    have main:past_Past_Revoke.f K1 ⟨pc,PT.node p g l r m q⟩ o.time=(bif decide (2*(((A++D).length:Nat):Int)<m2) then ((past_Past_build.f K1 pc (A++D)).bind fun x7=>some (0,TPast.mk pc x7)) else some (0,TPast.mk pc (PT.node o2 g2 l2 r2 m2 q2))):=by
      simp only [past_Past_Revoke.f,PT.isNil,cond_false,PT.q,a1,Option.bind_some,n0,PT.op,PT.gone,PT.lf,PT.rt,PT.n,f1,hpl,decide_true,cond_true,past_Past_Len_x.f,hqt.len,e2,past_Past_Ops.f,hqt.ops]
    generalize hX:(PT.node o2 g2 l2 r2 m2 q2:PQ)=t' at *
    by_cases hh:2*(((A++D).length:Nat):Int)<m2
    · obtain ⟨t2,b1,b2,b3,b4,b5,b6,b7⟩:=build_ok pc hc2 K1 (A++D) (by unfold K1;omega) hqt.okl hqt.lim.2.1 (by omega)
      have hct:cnt t2=(A++D).length:=by rw [← live_ng t2 b5,b3]
      refine ⟨⟨pc,t2⟩,?_,⟨rfl,b2.up (by omega) hB9,(by show (tim t2).Pairwise _;rw [b4];exact List.pairwise_map.2 hqt.okl.time)⟩,b3,fun x hx=>?_,?_,?_,fun _=>b6⟩
      · rw [main,decide_eq_true hh,cond_true]
        unfold past_Past_build.f
        rw [b1];rfl
      · show x∈tim (PT.node p g l r m q:PQ)
        have hx':x∈tim t2:=hx
        rw [b4] at hx'
        obtain ⟨y,hy,rfl⟩:=List.mem_map.1 hx'
        have:y∈live t':=by rw [f6];exact hy
        have:=live_tim t' y this
        rw [f5] at this;exact this
      · show cnt t2≤cnt (PT.node p g l r m q:PQ)
        have f7':cnt t'=cnt (PT.node p g l r m q:PQ):=f7
        omega
      · show cnt t2≤_;omega
    · refine ⟨⟨pc,t'⟩,?_,⟨rfl,f4,hst'⟩,f6,fun x hx=>?_,?_,?_,fun h=>f8 h⟩
      · rw [main,decide_eq_false hh,cond_false]
      · have hx':x∈tim t':=hx
        rw [f5] at hx';exact hx'
      · have f7':cnt t'=cnt (PT.node p g l r m q:PQ):=f7
        show cnt t'≤cnt (PT.node p g l r m q:PQ);omega
      · show cnt t'≤_;omega
end Go.Proofs.YtgjbibabegabnaaGreat
namespace Go.Proofs.YtgjbibabegabnaaGreat
open Go Go.Proofs.YtgjbibabegabnaaGreat.Sx
theorem plen_ok {c:Int} {B:Nat} {p:TPast} (h:PastOk c B p):past_Past_Len.f K1 p=some ((live p.root).length:Int):=by
  obtain ⟨pc,t⟩:=p
  obtain ⟨_,hok,_⟩:=h
  cases t with
  | nil => rfl
  | node p g l r m q =>
    obtain ⟨hq,_⟩:=hok
    simp only [past_Past_Len.f,PT.isNil,cond_false,PT.q,hq.len,Option.bind_some]
theorem split_new : ∀ (os:List TOp) (t:Int),TS1 os→(∀ x∈os,x.time≠t)→∃ A D,os=A++D∧(∀ x∈A,x.time<t)∧(∀ x∈D,t<x.time)
  | [], t, _, _ => ⟨[], [], rfl, (fun x hx => by cases hx), (fun x hx => by cases hx)⟩
  | y :: os, t, h, hn => by
    obtain ⟨h1,h2⟩:=List.pairwise_cons.1 h
    by_cases hy:y.time<t
    · obtain ⟨A,D,e,hA,hD⟩:=split_new os t h2 (fun x hx=>hn x (List.mem_cons_of_mem _ hx))
      refine ⟨y::A,D,by rw [e];rfl,fun x hx=>?_,hD⟩
      rcases List.mem_cons.1 hx with rfl | hx
      · exact hy
      · exact hA x hx
    · have hyt:t<y.time:=by have:=hn y List.mem_cons_self;omega
      refine ⟨[],y::os,rfl,(fun x hx=>by cases hx),fun x hx=>?_⟩
      rcases List.mem_cons.1 hx with rfl | hx
      · exact hyt
      · have:=h1 x hx;omega
theorem live_sorted : ∀ {t:PQ},STm t→TS1 (live t)
  | .nil, _ => List.Pairwise.nil
  | .node p g l r m q, h => by
    obtain ⟨h1,h2,h3,h4⟩:=h.parts
    have g1:=live_sorted h1;have g2:=live_sorted h2
    have pmem : ∀ x∈(bif g then [] else [p]:List TOp),x=p:=fun x hx=>by cases g <;> simp at hx;exact hx
    refine List.pairwise_append.2 ⟨g1,List.pairwise_append.2 ⟨?_,g2,fun x hx y hy=>?_⟩,fun x hx y hy=>?_⟩
    · cases g
      · exact List.pairwise_singleton _ _
      · exact List.Pairwise.nil
    · rw [pmem x hx];exact h4 _ (live_tim r y hy)
    · have a:=h3 _ (live_tim l x hx)
      rcases List.mem_append.1 hy with hy | hy
      · rw [pmem y hy];exact a
      · have:=h4 _ (live_tim r y hy);omega
theorem awake14:Lw14_awake.f K1=some true:=by kernel_rfl
theorem itemB (a b:TItem):((a.key == b.key)&&((a.id == b.id)&&true))=decide (a=b):=by
  by_cases h:a=b
  · subst h;simp
  · have : ¬ (a.key=b.key∧a.id=b.id):=fun h'=>h (item_ext h'.1 h'.2)
    by_cases h1:a.key=b.key
    · have h2:(a.id == b.id)=false:=by simpa using fun h2=>this ⟨h1,h2⟩
      simp [h,h2]
    · have h2:(a.key == b.key)=false:=by simpa using h1
      simp [h,h2]
theorem nat_in {a n:Nat} (h:a≤n):decide ((0:Int)≤(a:Int)∧(a:Int)≤(n:Int))=true:=by simp;omega
theorem sitems_loop (T:List TSlot) (hl:T.length<1000000) : ∀ (d i n:Nat),i+d=T.length→d<n→shelf_Items.l0 K1 T n ((T.take i).map (·.item),(i:Int))=some (T.map (·.item))
  | d, i, 0, _, h => by omega
  | 0, i, n + 1, hi, _ => by
    simp only [shelf_Items.l0]
    rw [dec_nlt (by omega),List.take_of_length_le (by omega)];rfl
  | d + 1, i, n + 1, hi, hn => by
    obtain ⟨x,hx,_⟩:=drop_cons (l:=T) (i:=i) (by omega)
    have e:(T.take i).map (·.item)++[x.item]=(T.take (i+1)).map (·.item):=by rw [take_snoc hx];simp
    simp only [shelf_Items.l0]
    rw [dec_lt (by omega)]
    simp only [cond_true,atL_nat hx,Option.bind_some]
    rw [decide_eq_true (by simp;omega)]
    simp only [cond_true,e,w64_succ (i:=i) (by omega)]
    exact sitems_loop T hl d (i+1) n (by omega) (by omega)
theorem sitems {p:PN TSlot TSize} {r:TRef} {T:List TSlot} {c:Int} {B:Nat} (h:GrS p r T c B) (hl:T.length<100000):shelf_Items.f K1 p r=some (T.map (·.item)):=by
  have e:=sitems_loop T (by omega) T.length 0 K1 (Nat.zero_add _) (by unfold K1;omega)
  replace e:shelf_Items.l0 K1 T K1 ([],0)=some (T.map (·.item)):=e
  unfold shelf_Items.f
  rw [h.all okS (by decide) (by omega)]
  simp only [Option.bind_some,e]
theorem same_loop (l:List TItem) (hl:l.length<1000000) : ∀ (d i n:Nat),i+d=l.length→d<n→R02_Same.l0 K1 l l n (i:Int)=some (Sum.inr ())
  | d, i, 0, _, h => by omega
  | 0, i, n + 1, hi, _ => by
    simp only [R02_Same.l0]
    rw [dec_nlt (by omega)];rfl
  | d + 1, i, n + 1, hi, hn => by
    obtain ⟨x,hx,_⟩:=drop_cons (l:=l) (i:=i) (by omega)
    simp only [R02_Same.l0]
    rw [dec_lt (by omega)]
    simp only [cond_true,atL_nat hx,Option.bind_some,beq_self_eq_true,Bool.and_self,Bool.not_true,cond_false,w64_succ (i:=i) (by omega)]
    exact same_loop l hl d (i+1) n (by omega) (by omega)
theorem refSame (l:List TItem) (hl:l.length<1000000):R02_Same.f K1 l l=some true:=by
  unfold R02_Same.f
  have e0:((l.length:Int) != (l.length:Int))=false:=by simp
  have hlt:l.length<K1:=by unfold K1;omega
  have e:=same_loop l hl l.length 0 K1 (Nat.zero_add _) hlt
  replace e:R02_Same.l0 K1 l l K1 0=some (Sum.inr ()):=e
  rw [e0,e];rfl
def delsO (l:List TOp):List TOp:=l.filter (fun o=>!o.insert)
theorem runR_sorted (l:List TOp):Sorted (runR l).here:=by
  have key : ∀ i,i≤l.length→Sorted (runR (l.take i)).here:=by
    intro i
    induction i with
    | zero => intro _; simp [runR]
    | succ i ih =>
      intro h
      obtain ⟨x,hx,_⟩:=drop_cons (l:=l) (i:=i) (by omega)
      have h1:=ih (by omega)
      rw [runR_succ hx]
      unfold stepR
      split
      · exact sins_sorted _ _ h1
      · split
        · rename_i hh;rw [hh] at h1;exact (List.pairwise_cons.1 h1).2
        · exact List.Pairwise.nil
  have:=key l.length (Nat.le_refl _)
  rwa [List.take_length] at this
theorem oat_loop (t:Int) (l:List TOp) (hl:l.length<1000000) : ∀ (d i n:Nat),i+d=l.length→d<n→(∀ y∈l.take i,y.time≠t)→∃ v,R12_At.l0 K1 l t n (i:Int)=some v∧((v=Sum.inr ()∧∀ y∈l,y.time≠t)∨∃ (j:Nat) (y:TOp),v=Sum.inl (j:Int)∧l[j]? = some y∧y.time=t∧∀ z∈l.take j,z.time≠t)
  | d, i, 0, _, h, _ => by omega
  | 0, i, n + 1, hi, _, h1 => by
    simp only [R12_At.l0]
    rw [dec_nlt (by omega)]
    rw [List.take_of_length_le (by omega)] at h1
    exact ⟨_,rfl,.inl ⟨rfl,h1⟩⟩
  | d + 1, i, n + 1, hi, hn, h1 => by
    obtain ⟨y,hy,_⟩:=drop_cons (l:=l) (i:=i) (by omega)
    simp only [R12_At.l0]
    rw [dec_lt (by omega)]
    simp only [cond_true,atL_nat hy,Option.bind_some]
    by_cases e:y.time=t
    · rw [e,beq_self_eq_true]
      exact ⟨_,rfl,.inr ⟨i,y,rfl,hy,e,h1⟩⟩
    · have e':(y.time == t)=false:=by simpa using e
      simp only [e',cond_false,w64_succ (i:=i) (by omega)]
      refine oat_loop t l hl d (i+1) n (by omega) (by omega) (fun z hz=>?_)
      rw [take_snoc hy] at hz
      rcases List.mem_append.1 hz with hz | hz
      · exact h1 z hz
      · rw [List.mem_singleton.1 hz];exact e
theorem has_loop (x:TItem) (l:List TOp) (hl:l.length<1000000) : ∀ (d i n:Nat),i+d=l.length→d<n→(∀ y∈l.take i,y.insert=true→y.item≠x)→∃ v,R12_Has.l0 K1 l x n (i:Int)=some v∧((v=Sum.inr ()∧∀ y∈l,y.insert=true→y.item≠x)∨(v=Sum.inl true∧∃ y∈l,y.insert=true∧y.item=x))
  | d, i, 0, _, h, _ => by omega
  | 0, i, n + 1, hi, _, h1 => by
    simp only [R12_Has.l0]
    rw [dec_nlt (by omega)]
    rw [List.take_of_length_le (by omega)] at h1
    exact ⟨_,rfl,.inl ⟨rfl,h1⟩⟩
  | d + 1, i, n + 1, hi, hn, h1 => by
    obtain ⟨y,hy,_⟩:=drop_cons (l:=l) (i:=i) (by omega)
    have next:(y.insert=true→y.item≠x)→∃ v,R12_Has.l0 K1 l x n ((i+1:Nat):Int)=some v∧((v=Sum.inr ()∧∀ y∈l,y.insert=true→y.item≠x)∨(v=Sum.inl true∧∃ y∈l,y.insert=true∧y.item=x)):=fun hy'=>by
      refine has_loop x l hl d (i+1) n (by omega) (by omega) (fun z hz=>?_)
      rw [take_snoc hy] at hz
      rcases List.mem_append.1 hz with hz | hz
      · exact h1 z hz
      · rw [List.mem_singleton.1 hz];exact hy'
    simp only [R12_Has.l0]
    rw [dec_lt (by omega)]
    simp only [cond_true,atL_nat hy,Option.bind_some,itemB,w64_succ (i:=i) (by omega)]
    cases hi1:y.insert with
    | false => simp only [cond_false]; exact next (fun h => by rw [hi1] at h; cases h)
    | true =>
      simp only [cond_true]
      by_cases e:y.item=x
      · simp only [e,decide_true,cond_true]
        exact ⟨_,rfl,.inr ⟨rfl,y,List.mem_of_getElem? hy,hi1,e⟩⟩
      · simp only [e,decide_false,cond_false];exact next (fun _=>e)
theorem add_loop (o:TOp) (A D:List TOp) (hA : ∀ x∈A,x.time<o.time) (hD : ∀ x∈D,o.time<x.time) (hl:(A++D).length<1000000) : ∀ (d i n:Nat),i+d=A.length→d<n→R12_Add.l0 K1 (A++D) o n (i:Int)=some (A.length:Int)
  | d, i, 0, _, h => by omega
  | 0, i, n + 1, hi, _ => by
    have:i=A.length:=by omega
    subst this
    simp only [R12_Add.l0]
    cases D with
    | nil => rw [List.append_nil, dec_nlt (Nat.le_refl _)]; rfl
    | cons y D =>
      have hy:(A++y::D)[A.length]? = some y:=by rw [List.getElem?_append_right (Nat.le_refl _),Nat.sub_self];rfl
      have:=hD y List.mem_cons_self
      rw [dec_lt (by simp)]
      simp only [cond_true,atL_nat hy,Option.bind_some]
      rw [decide_eq_false (by omega)];rfl
  | d + 1, i, n + 1, hi, hn => by
    simp only [List.length_append] at hl
    obtain ⟨y,hy,_⟩:=drop_cons (l:=A) (i:=i) (by omega)
    have hy':(A++D)[i]? = some y:=by rw [List.getElem?_append_left (by omega)];exact hy
    have:=hA y (List.mem_of_getElem? hy)
    simp only [R12_Add.l0]
    rw [dec_lt (by simp;omega)]
    simp only [cond_true,atL_nat hy',Option.bind_some]
    rw [decide_eq_true this,cond_true,w64_succ (i:=i) (by omega)]
    exact add_loop o A D hA hD (by simp;omega) d (i+1) n (by omega) (by omega)
theorem refAdd (o:TOp) (A D:List TOp) (hA : ∀ x∈A,x.time<o.time) (hD : ∀ x∈D,o.time<x.time) (hl:(A++D).length<100000):R12_Add.f K1 (A++D) o=some (A++o::D):=by
  have hl':=hl
  simp only [List.length_append] at hl'
  have e:=add_loop o A D hA hD (by omega) A.length 0 K1 (Nat.zero_add _) (by unfold K1;omega)
  replace e:R12_Add.l0 K1 (A++D) o K1 0=some (A.length:Int):=e
  have e1:((A++D).drop 0).take (((A.length:Int)).toNat - 0)=A:=by simp
  have e2:((A++D).drop ((A.length:Int)).toNat).take ((A++D).length - ((A.length:Int)).toNat)=D:=by
    rw [Int.toNat_natCast,List.drop_left' rfl,List.take_of_length_le (by simp)]
  unfold R12_Add.f
  simp only [e,Option.bind_some,e1,e2,List.nil_append]
  rw [nat_in (by simp),cond_true,decide_eq_true (by rw [List.length_nil];omega),cond_true,decide_eq_true (by rw [List.length_singleton];omega),cond_true,cond_true,decide_eq_true (by simp;omega),cond_true]
  simp
theorem refWithout (A D:List TOp) (y:TOp) (hl:(A++y::D).length<100000):R12_Without.f K1 (A++y::D) (A.length:Int)=some (A++D):=by
  have hl':=hl
  simp only [List.length_append,List.length_cons] at hl'
  have hw:w64 ((A.length:Int)+1)=((A.length+1:Nat):Int):=w64_succ (by omega)
  have e1:((A++y::D).drop 0).take (((A.length:Int)).toNat - 0)=A:=by simp
  have e2:((A++y::D).drop (((A.length+1:Nat):Int)).toNat).take ((A++y::D).length - (((A.length+1:Nat):Int)).toNat)=D:=by
    rw [Int.toNat_natCast,List.take_of_length_le (by simp;omega)]
    rw [show A++y::D=(A++[y])++D by simp,List.drop_left' (by simp)]
  unfold R12_Without.f
  simp only [hw,e1,e2,List.nil_append]
  rw [nat_in (by simp),cond_true,decide_eq_true (by rw [List.length_nil];omega),cond_true,nat_in (by simp),cond_true,decide_eq_true (by omega),cond_true]
theorem refRest (a:Int) {n:Nat} (hn:1≤n) (hn2:n<1000000) : ∃ r:Nat,R01_Rest.f K1 a (n:Int)=some (r:Int)∧r<n:=by
  have h0:decide ((n:Int)≠0)=true:=decide_eq_true (by omega)
  have h6:(a.tmod (n:Int)).natAbs<n:=by rw [Int.natAbs_tmod];exact Nat.mod_lt _ (by omega)
  have h3:w64 (a.tmod (n:Int)+(n:Int))=a.tmod (n:Int)+(n:Int):=w64_id (by omega) (by omega)
  unfold R01_Rest.f
  simp only [h0,cond_true,h3]
  have h4:=Int.tmod_nonneg (a:=a.tmod (n:Int)+(n:Int)) (n:Int) (by omega)
  have h5:=Int.tmod_lt_of_pos (a.tmod (n:Int)+(n:Int)) (b:=(n:Int)) (by omega)
  exact ⟨((a.tmod (n:Int)+(n:Int)).tmod (n:Int)).toNat,by congr 1;omega,by omega⟩
theorem hereI_nodup : ∀ {m:List TMark},Dist m→(hereI m).Nodup
  | [], _ => List.nodup_nil
  | x :: m, h => by
    have hd:Dist m:=dist_del (A:=[]) (x:=x) h
    have e:hereI (x::m)=hereI [x]++hereI m:=hereI_app [x] m
    rw [e]
    have ih:=hereI_nodup hd
    cases hi:x.op.insert with
    | false => rw [(one_D hi).1]; exact ih
    | true =>
      cases hh:x.here with
      | false => rw [(one_G ⟨hi, hh⟩).1]; exact ih
      | true =>
        rw [(one_S ⟨hi,hh⟩).1]
        refine List.nodup_cons.2 ⟨fun hx=>?_,ih⟩
        obtain ⟨i,y,h1,h2,h3⟩:=mem_hereI.1 hx
        have:=h 0 (i+1) x y rfl h1 hi h2.1 h3.symm
        omega
end Go.Proofs.YtgjbibabegabnaaGreat
namespace Go.Proofs.YtgjbibabegabnaaGreat
open Go Go.Proofs.YtgjbibabegabnaaGreat.Sx
def srt:List TItem→List TItem
  | [] => []
  | x :: l => sins x (srt l)
theorem srt_perm : ∀ l,(srt l).Perm l
  | [] => List.Perm.refl _
  | x :: l => (sins_perm x _).trans ((srt_perm l).cons x)
theorem srt_sorted : ∀ l,Sorted (srt l)
  | [] => List.Pairwise.nil
  | x :: l => sins_sorted x _ (srt_sorted l)
theorem srt_len (l:List TItem):(srt l).length=l.length:=(srt_perm l).length_eq
theorem srt_eq {l l':List TItem} (h:l.Perm l'):srt l=srt l':=sorted_perm_eq (srt_sorted _) (srt_sorted _) (((srt_perm l).trans h).trans (srt_perm l').symm)
theorem srt_id {l:List TItem} (h:Sorted l):srt l=l:=sorted_perm_eq (srt_sorted _) h (srt_perm l)
theorem srt_of {l l':List TItem} (h:Sorted l) (hp:l.Perm l'):l=srt l':=sorted_perm_eq h (srt_sorted _) (hp.trans (srt_perm l').symm)
theorem srt_min {x:TItem} {l:List TItem} (h : ∀ y∈l,ile x y):srt (x::l)=x::srt l :=
  (srt_of (List.pairwise_cons.2 ⟨fun y hy=>h y ((srt_perm l).mem_iff.1 hy),srt_sorted l⟩) ((srt_perm l).cons x)).symm
theorem drop_sorted {l:List TItem} (h:Sorted l) (n:Nat):Sorted (l.drop n):=h.sublist (List.drop_sublist n l)
theorem drop_le {y z:TItem} : ∀ {A:List TItem} (n:Nat) {D:List TItem},Sorted A→A.drop n=z::D→ile y z→(sins y A).drop (n+1)=A.drop n
  | [], n, _, _, h, _ => by simp at h
  | a :: t, 0, D, hs, h, hy => by
    obtain ⟨rfl,rfl⟩:a=z∧t=D:=by simpa using h
    unfold sins
    split
    · rfl
    · rename_i hn
      have e:y=a:=ile_antisymm hy (not_ilt.1 hn)
      subst e
      exact sorted_perm_eq (sins_sorted y t (List.pairwise_cons.1 hs).2) hs (sins_perm y t)
  | a :: t, n + 1, D, hs, h, hy => by
    unfold sins
    split
    · rfl
    · exact drop_le (A:=t) n (List.pairwise_cons.1 hs).2 (by simpa using h) hy
theorem drop_gt {y z:TItem} : ∀ {A:List TItem} (n:Nat) {D:List TItem},Sorted A→A.drop n=z::D→ilt z y→((sins y A).drop (n+1)).Perm (y::D)
  | [], n, _, _, h, _ => by simp at h
  | a :: t, 0, D, hs, h, hy => by
    obtain ⟨rfl,rfl⟩:a=z∧t=D:=by simpa using h
    unfold sins
    rw [if_neg (fun h'=>not_ilt.2 (ilt_ile hy) h')]
    exact sins_perm y t
  | a :: t, n + 1, D, hs, h, hy => by
    have h':t.drop n=z::D:=by simpa using h
    have hz:z∈t:=List.mem_of_mem_drop (by rw [h'];exact List.mem_cons_self)
    have ha:=(List.pairwise_cons.1 hs).1 z hz
    unfold sins
    rw [if_neg (fun h2=>ilt_irrefl _ (ilt_trans_le h2 (ile_trans ha (ilt_ile hy))))]
    exact drop_gt (A:=t) n (List.pairwise_cons.1 hs).2 h' hy
theorem drop_none {y:TItem} {A:List TItem} {n:Nat} (h:A.drop n=[]):(sins y A).drop (n+1)=[]:=by
  have h1:A.length≤n:=List.drop_eq_nil_iff.1 h
  exact List.drop_eq_nil_iff.2 (by have:=(sins_perm y A).length_eq;simp at this;omega)
def hereS (s:List TItem) (o:TOp):List TItem:=if o.insert then sins o.item s else s.tail
theorem hereS_eq (s:RS) (o:TOp):(stepR s o).here=hereS s.here o:=by
  unfold stepR hereS
  split
  · rfl
  · split
    · rename_i h;rw [h];rfl
    · rename_i h;rw [h];rfl
theorem hereS_fold : ∀ (os:List TOp) (s:RS),(os.foldl stepR s).here=os.foldl hereS s.here
  | [], _ => rfl
  | o :: os, s => by rw [List.foldl_cons, List.foldl_cons, hereS_fold os, hereS_eq]
theorem runR_app (a b:List TOp):(runR (a++b)).here=b.foldl hereS (runR a).here:=by
  unfold runR;rw [List.foldl_append,hereS_fold]
abbrev delN (os:List TOp):Nat:=(delsO os).length
theorem delsO_app (a b:List TOp):delsO (a++b)=delsO a++delsO b:=List.filter_append ..
def fuseI (U P G:List TItem) (n:Nat):List TItem:=srt (P++(srt (U++G)).drop n)
def FuseP (U:List TItem) (os:List TOp):Prop:=os.foldl hereS U=fuseI U (runR os).here (runR os).gone (delN os)
theorem fuse_step (U : List TItem) (os : List TOp) (o : TOp) (ih : FuseP U os) : FuseP U (os ++ [o]) := by
    unfold FuseP at *
    rw [List.foldl_append,ih,List.foldl_cons,List.foldl_nil]
    have e:runR (os++[o])=stepR (runR os) o:=by unfold runR;rw [List.foldl_append];rfl
    rw [e]
    have hP:=runR_sorted os
    unfold delN
    rw [delsO_app]
    generalize runR os=s at *
    obtain ⟨P,G,fr,tk⟩:=s
    simp only [hereS,stepR]
    by_cases ho:o.insert=true
    · rw [if_pos ho,if_pos ho]
      have:delsO [o]=[]:=by simp [delsO,ho]
      rw [this,List.append_nil]
      unfold fuseI
      exact sorted_perm_eq (sins_sorted _ _ (srt_sorted _)) (srt_sorted _) ((((sins_perm _ _).trans ((srt_perm _).cons _)).trans (((sins_perm o.item P).symm).append_right _)).trans (srt_perm _).symm)
    · have ho':o.insert=false:=by simpa using ho
      rw [if_neg ho,if_neg ho]
      have:delsO [o]=[o]:=by simp [delsO,ho']
      rw [this,List.length_append,List.length_singleton]
      generalize (delsO os).length=n
      have hA:=srt_sorted (U++G)
      cases P with
      | nil =>
        simp only [fuseI,List.nil_append]
        rw [srt_id (drop_sorted hA n),srt_id (drop_sorted hA (n+1)),List.tail_drop]
      | cons y P' =>
        simp only
        have eA:srt (U++(G++[y]))=sins y (srt (U++G)):=(srt_of (sins_sorted y _ hA) (((sins_perm y _).trans ((srt_perm _).cons y)).trans (by rw [← List.append_assoc];exact List.perm_append_comm (l₁:=[y])))).symm
        have hy:=(List.pairwise_cons.1 hP).1
        unfold fuseI
        rw [eA]
        cases hD:(srt (U++G)).drop n with
        | nil =>
          rw [drop_none hD,List.append_nil,List.append_nil,srt_id hP,srt_id (List.pairwise_cons.1 hP).2];rfl
        | cons z D1 =>
          have hzD : ∀ d∈D1,ile z d:=(List.pairwise_cons.1 (hD▸drop_sorted hA n)).1
          by_cases hyz:ile y z
          · rw [drop_le n hA hD hyz,hD,List.cons_append,srt_min];· rfl
            intro d hd
            rcases List.mem_append.1 hd with hd | hd
            · exact hy d hd
            · rcases List.mem_cons.1 hd with rfl | hd
              · exact hyz
              · exact ile_trans hyz (hzD d hd)
          · have hzy:ilt z y:=by rw [← Classical.not_not (a:=ilt z y),not_ilt];exact hyz
            have h1:((y::P')++z::D1).Perm (z::((y::P')++D1)):=List.perm_middle
            rw [srt_eq h1,srt_min]
            · rw [List.tail_cons]
              refine srt_eq ?_
              refine List.Perm.trans ?_ ((drop_gt n hA hD hzy).symm.append_left P')
              exact (List.perm_middle (a:=y) (l₁:=P') (l₂:=D1)).symm
            · intro d hd
              rcases List.mem_append.1 hd with hd | hd
              · rcases List.mem_cons.1 hd with rfl | hd
                · exact ilt_ile hzy
                · exact ile_trans (ilt_ile hzy) (hy d hd)
              · exact hzD d hd
theorem fuse_from (U:List TItem) : ∀ (os2 os1:List TOp),FuseP U os1→FuseP U (os1++os2)
  | [], os1, h => by rw [List.append_nil]; exact h
  | o :: os2, os1, h => by
    have:=fuse_from U os2 (os1++[o]) (fuse_step U os1 o h)
    rwa [List.append_assoc] at this
theorem fuse_run (U:List TItem) (hU:Sorted U) (os:List TOp):os.foldl hereS U=fuseI U (runR os).here (runR os).gone (delN os) :=
  fuse_from U os [] (show U=fuseI U [] [] 0 by unfold fuseI;rw [List.append_nil,List.nil_append,List.drop_zero,srt_id hU,srt_id hU])
end Go.Proofs.YtgjbibabegabnaaGreat
namespace Go.Proofs.YtgjbibabegabnaaGreat
open Go Go.Proofs.YtgjbibabegabnaaGreat.Sx
section
variable {E A:Type} {O:Ops E A} {k N:Nat} {G:E→Prop} {S:A→List E→Prop} {lt:E→E→Prop}
theorem at_ok (ok : OpsOk O k N G S lt) {p : PN E A} {L : List TRef} {B : Nat} (hP : PW p L B) : ∀ (n : Nat) {r : TRef} {t : Tr E} (i : Int), t.size < n → Rep S p r t → 0 ≤ i → i < 9223372036854775808 → t.size < 4294967296 →
    Tree_At.l0 O k p n (i,r)=some (match t.toList[i.toNat]? with | some y=>Sum.inl (y,true) | none=>Sum.inr ())
  | 0, _, _, _, h, _, _, _, _ => by omega
  | n + 1, r, .nil, i, hn, hr, hi, hi2, hb => by
    have e0:(r.gen != 0)=false:=by simpa using hr.nil_iff.2 rfl
    simp only [Tree_At.l0,e0,cond_false,Tr.toList,List.getElem?_nil]
  | n + 1, r, .node r0 e0 l u, i, hn, hr, hi, hi2, hb => by
    obtain ⟨n1,g1,g2⟩:=get_ok ok hP hr
    obtain ⟨rfl,he,hl,hu,hlk⟩:=g2.node rfl
    have hg:(r.gen != 0)=true:=by have:=hP.ne0 hlk;rw [bne,this];rfl
    have hsz:(Tr.node r e0 l u).size=l.size+1+u.size:=rfl
    have hln:(Tr.node r e0 l u).toList=l.toList++e0::u.toList:=rfl
    obtain ⟨n2,g3,g4⟩:=get_ok ok hP hl
    simp only [Tree_At.l0,hg,cond_true,g1,Option.bind_some,g3,g4.size]
    rw [hln]
    have hll:=Tr.len_toList l
    by_cases h1:i=(l.size:Int)
    · have h0:(i == (l.size:Int))=true:=by simpa using h1
      simp only [h0,cond_true]
      rw [List.getElem?_append_right (by omega),show i.toNat - l.toList.length=0 by omega]
      simp [he]
    · have h0:(i == (l.size:Int))=false:=by simpa using h1
      simp only [h0,cond_false]
      by_cases h2:i<(l.size:Int)
      · simp only [h2,decide_true,cond_true]
        rw [at_ok ok hP n i (by omega) hl hi hi2 (by omega),List.getElem?_append_left (by omega)]
      · simp only [h2,decide_false,cond_false]
        have e1:w64 ((l.size:Int)+1)=(l.size:Int)+1:=w64_id (by omega) (by omega)
        rw [e1,w64_id (by omega) (by omega),at_ok ok hP n (i - ((l.size:Int)+1)) (by omega) hu (by omega) (by omega) (by omega),List.getElem?_append_right (by omega)]
        rw [show i.toNat - l.toList.length=(i - ((l.size:Int)+1)).toNat+1 by omega,List.getElem?_cons_succ]
theorem Gr.at (ok : OpsOk O k N G S lt) (hk : N ≤ k) {p : PN E A} {r : TRef} {l : List E} {c : Int} {B : Nat} (h : Gr S lt G p r l c B) (i : Int) (hi : i < 9223372036854775808) (hN : l.length < N) :
    Tree_At.f O k p r i=some (if i<0 then (O.zE,false) else match l[i.toNat]? with | some y=>(y,true) | none=>(O.zE,false)):=by
  obtain ⟨t,hP,hr,rfl⟩:=h.ex
  have hbig:=ok.big
  have hll:=Tr.len_toList t
  unfold Tree_At.f
  by_cases h0:i<0
  · simp only [h0,decide_true,cond_true,if_true]
  · simp only [h0,decide_false,cond_false,if_false]
    rw [at_ok ok hP k i (by omega) hr (by omega) hi (by omega)]
    cases t.toList[i.toNat]? <;> rfl
end
end Go.Proofs.YtgjbibabegabnaaGreat
namespace Go.Proofs.YtgjbibabegabnaaGreat
open Go Go.Proofs.YtgjbibabegabnaaGreat.Sx
structure CutI (x:TItem) (l A M B:List TItem):Prop where
  eq:l=A++(M++B)
  la : ∀ y∈A,ilt y x
  lb : ∀ y∈B,ilt x y
  lm:M=[]∨M=[x]
theorem cutI {x:TItem} {l:List TItem} {a m b:List TSlot} (h:Cut ltS (slot x) (sls l) a m b) : ∃ A M B,CutI x l A M B∧sls A=a∧sls M=m∧sls B=b:=by
  obtain ⟨A,R,h1,h2,h3⟩:=List.map_eq_append_iff.1 h.eq
  obtain ⟨M,B,h4,h5,h6⟩:=List.map_eq_append_iff.1 h3
  refine ⟨A,M,B,⟨by rw [h1,h4],fun y hy=>?_,fun y hy=>?_,?_⟩,h2,h5,h6⟩
  · exact h.la (slot y) (by rw [← h2];exact List.mem_map.2 ⟨y,hy,rfl⟩)
  · exact h.lb (slot y) (by rw [← h6];exact List.mem_map.2 ⟨y,hy,rfl⟩)
  · rcases h.lm with h7 | ⟨y,h7,h8,h9⟩
    · left;subst h7;exact List.map_eq_nil_iff.1 h5
    · right
      subst h7
      obtain ⟨z,hz,hzy⟩:=List.map_eq_singleton_iff.1 h5
      subst hzy
      have e:=item_eq (a:=x) (b:=z) h8 h9
      rw [hz,e]
abbrev below (T:List TItem) (x:TItem):List TItem:=T.filter (fun y=>decide (ilt y x))
abbrev behind (T:List TItem) (x:TItem):List TItem:=T.filter (fun y=>decide (ilt x y))
theorem ilt_asymm {a b:TItem} (h:ilt a b) : ¬ ilt b a:=fun h'=>not_ilt.2 (ilt_ile h) h'
theorem ilt_trans {a b c:TItem} (h:ilt a b) (h':ilt b c):ilt a c:=ilt_trans_le h (ilt_ile h')
theorem filt_all {T:List TItem} {p:TItem→Prop} [DecidablePred p] (h : ∀ y∈T,p y):T.filter (fun y=>decide (p y))=T:=List.filter_eq_self.2 (fun y hy=>by simpa using h y hy)
theorem filt_none {T:List TItem} {p:TItem→Prop} [DecidablePred p] (h : ∀ y∈T,¬ p y):T.filter (fun y=>decide (p y))=[]:=List.filter_eq_nil_iff.2 (fun y hy=>by simpa using h y hy)
theorem CutI.behind {x:TItem} {l A M B:List TItem} (h:CutI x l A M B):behind l x=B:=by
  unfold Go.Proofs.YtgjbibabegabnaaGreat.behind
  rw [h.eq,List.filter_append,List.filter_append,filt_none (fun y hy=>ilt_asymm (h.la y hy)),filt_all h.lb]
  rcases h.lm with h | h
  · rw [h];rfl
  · rw [h];simp [ilt_irrefl]
theorem CutI.below {x:TItem} {l A M B:List TItem} (h:CutI x l A M B):below l x=A:=by
  unfold Go.Proofs.YtgjbibabegabnaaGreat.below
  rw [h.eq,List.filter_append,List.filter_append,filt_none (T:=B) (fun y hy=>ilt_asymm (h.lb y hy)),filt_all h.la]
  rcases h.lm with h | h
  · rw [h];simp
  · rw [h];simp [ilt_irrefl]
theorem CutI.len {x:TItem} {l A M B:List TItem} (h:CutI x l A M B):l.length=A.length+(M.length+B.length):=by rw [h.eq];simp
theorem CutI.mem {x:TItem} {l A M B:List TItem} (h:CutI x l A M B):x∈l↔M=[x]:=by
  constructor
  · intro hx
    rcases h.lm with hm | hm
    · rw [h.eq,hm] at hx
      rcases List.mem_append.1 hx with hx | hx
      · exact absurd (h.la x hx) (ilt_irrefl x)
      · exact absurd (h.lb x (by simpa using hx)) (ilt_irrefl x)
    · exact hm
  · intro hm;rw [h.eq,hm];simp
structure Sh (t:TS TSlot TSize) (T:List TItem):Prop where
  ex : ∃ c B,GrS t.p t.r (sls T) c B
  len:T.length<1000
theorem Sh.srt {t:TS TSlot TSize} {T:List TItem} (h:Sh t T):T.Pairwise ilt:=by
  obtain ⟨c,B,g⟩:=h.ex
  exact ((List.pairwise_map (f:=slot) (R:=ltS)).1 g.sorted).imp (fun h=>h)
theorem Sh.size {t:TS TSlot TSize} {T:List TItem} (h:Sh t T):Tree_Len.f opsS K1 t.p t.r=some (T.length:Int):=by
  obtain ⟨c,B,g⟩:=h.ex
  have:=g.len okS (k:=K1);rwa [List.length_map] at this
theorem Sh.cut {t:TS TSlot TSize} {T:List TItem} (h:Sh t T) (x:TItem) : ∃ A M B,CutI x T A M B:=by
  obtain ⟨c,B,g⟩:=h.ex
  obtain ⟨a,m,b,hc,_⟩:=g.rank okS (by decide:1000000≤K1) (slot x) (by have:=h.len;simp;omega)
  obtain ⟨A,M,B,c1,_⟩:=cutI hc
  exact ⟨A,M,B,c1⟩
theorem Sh.rank {t:TS TSlot TSize} {T:List TItem} (h:Sh t T) (x:TItem):Tree_Rank.f opsS K1 t.p t.r (slot x)=some ((below T x).length:Int):=by
  obtain ⟨c,B,g⟩:=h.ex
  obtain ⟨a,m,b,hc,e⟩:=g.rank okS (by decide:1000000≤K1) (slot x) (by have:=h.len;simp;omega)
  obtain ⟨A,M,B,c1,rfl,rfl,rfl⟩:=cutI hc
  rw [e,c1.below,List.length_map]
theorem Sh.find {t:TS TSlot TSize} {T:List TItem} (h:Sh t T) (x:TItem) : ∃ s,Tree_Find.f opsS K1 t.p t.r (slot x)=some (s,decide (x∈T)):=by
  obtain ⟨c,B,g⟩:=h.ex
  obtain ⟨a,m,b,hc,e⟩:=g.find okS (by decide:1000000≤K1) (slot x) (by have:=h.len;simp;omega)
  obtain ⟨A,M,B,c1,rfl,rfl,rfl⟩:=cutI hc
  rw [e]
  rcases c1.lm with hm | hm
  · subst hm
    exact ⟨_,by rw [decide_eq_false (fun hx=>by have:=c1.mem.1 hx;cases this)];rfl⟩
  · subst hm
    exact ⟨_,by rw [decide_eq_true (c1.mem.2 rfl)];rfl⟩
theorem Sh.above {t:TS TSlot TSize} {T:List TItem} (h:Sh t T) (x:TItem):shelf_Above.f K1 t.p t.r x=some ((behind T x).length:Int):=by
  obtain ⟨A,M,B,c1⟩:=h.cut x
  obtain ⟨s,hs⟩:=h.find x
  have hl:=c1.len
  have hb:=h.len
  unfold shelf_Above.f
  simp only [h.size,Option.bind_some,of_ok,h.rank x,hs,c1.below,c1.behind]
  rw [w64_id (x:=(T.length:Int) - (A.length:Int)) (by omega) (by omega)]
  by_cases hx:x∈T
  · have:=c1.mem.1 hx;subst this
    simp only [hx,decide_true,cond_true,List.length_singleton] at hl ⊢
    rw [w64_id (by omega) (by omega)];congr 1;omega
  · have hm:M=[]:=c1.lm.resolve_right (fun hm=>hx (c1.mem.2 hm))
    subst hm
    simp only [hx,decide_false,cond_false,List.length_nil] at hl ⊢
    congr 1;omega
theorem Sh.at {t:TS TSlot TSize} {T:List TItem} (h:Sh t T) {i:Nat} {x:TItem} (hx:T[i]? = some x):Tree_At.f opsS K1 t.p t.r (i:Int)=some (slot x,true):=by
  obtain ⟨c,B,g⟩:=h.ex
  have hi:=(List.getElem?_eq_some_iff.1 hx).1
  have hb:=h.len
  rw [g.at okS (by decide:1000000≤K1) (i:Int) (by omega) (by simp;omega)]
  simp [hx]
def pit (p:TPart) (T:List TItem):List TItem:=if p.floor.found=true then behind T p.floor.item else T
theorem pit_drop {p:TPart} {t:TS TSlot TSize} {T:List TItem} (h:Sh t T) : ∃ P,T=P++pit p T:=by
  unfold pit
  split
  · obtain ⟨A,M,B,c1⟩:=h.cut p.floor.item
    exact ⟨A++M,by rw [c1.behind,List.append_assoc];exact c1.eq⟩
  · exact ⟨[],rfl⟩
theorem pit_len (p:TPart) (T:List TItem):(pit p T).length≤T.length:=by
  unfold pit;split
  · exact List.length_filter_le _ _
  · exact Nat.le_refl _
def PartOk (Q:List TQueue) (v:TPart×List TItem):Prop:=∃ t,hTree Q v.1.shelf=some t∧Sh t v.2
theorem ahead_ok {Q:List TQueue} {v:TPart×List TItem} (h:PartOk Q v):fuse_part_ahead.f K1 Q v.1=some ((v.2.length - (pit v.1 v.2).length:Nat):Int):=by
  obtain ⟨p,T⟩:=v
  obtain ⟨t,h1,h2⟩:=h
  simp only at h1 h2 ⊢
  have hb:=h2.len
  unfold fuse_part_ahead.f pit
  by_cases hf:p.floor.found=true
  · have hq:(behind T p.floor.item).length≤T.length:=List.length_filter_le _ _
    simp only [hf,Bool.not_true,cond_false,h1,Option.bind_some,h2.size,h2.above,if_true]
    generalize behind T p.floor.item=R at hq ⊢
    rw [w64_id (by omega) (by omega)];congr 1;omega
  · have hf':p.floor.found=false:=by simpa using hf
    simp [hf']
theorem psize_ok {Q:List TQueue} {v:TPart×List TItem} (h:PartOk Q v):fuse_part_size.f K1 Q v.1=some ((pit v.1 v.2).length:Int):=by
  have ha:=ahead_ok h
  obtain ⟨p,T⟩:=v
  obtain ⟨t,h1,h2⟩:=h
  simp only at h1 h2 ha ⊢
  have hb:=h2.len
  have:=pit_len p T
  unfold fuse_part_size.f
  simp only [h1,Option.bind_some,h2.size,ha]
  rw [w64_id (by omega) (by omega)];congr 1;omega
theorem below_app (a b:List TItem) (x:TItem):below (a++b) x=below a x++below b x:=List.filter_append ..
theorem below_len (a:List TItem) (x:TItem):(below a x).length≤a.length:=List.length_filter_le _ _
theorem below_part {P R:List TItem} (hs:(P++R).Pairwise ilt) (x:TItem):gmax 0 (((below (P++R) x).length:Int) - (P.length:Int))=((below R x).length:Int):=by
  have h1:=below_len P x
  rw [below_app,List.length_append]
  by_cases hr:below R x=[]
  · rw [hr];unfold gmax;simp;omega
  · obtain ⟨y,hy⟩:=List.exists_mem_of_ne_nil _ hr
    have hy2:=List.mem_filter.1 hy
    have hyx:ilt y x:=by simpa using hy2.2
    have:below P x=P:=filt_all (fun z hz=>ilt_trans ((List.pairwise_append.1 hs).2.2 z hz y hy2.1) hyx)
    rw [this];unfold gmax;split <;> omega
theorem prank_ok {Q:List TQueue} {v:TPart×List TItem} (h:PartOk Q v) (x:TItem):fuse_part_rank.f K1 Q v.1 x=some ((below (pit v.1 v.2) x).length:Int):=by
  have ha:=ahead_ok h
  obtain ⟨p,T⟩:=v
  obtain ⟨t,h1,h2⟩:=h
  simp only at h1 h2 ha ⊢
  have hb:=h2.len
  obtain ⟨P,hP⟩:=pit_drop (p:=p) h2
  have hl:T.length=P.length+(pit p T).length:=by
    have:=congrArg List.length hP;simpa using this
  have hs:=h2.srt
  have hlt:=below_len T x
  unfold fuse_part_rank.f
  simp only [of_ok,h1,Option.bind_some,h2.rank,ha]
  rw [w64_id (by omega) (by omega)]
  congr 1
  generalize pit p T=R at *
  subst hP
  rw [← below_part hs x];congr 2;omega
def itm (vs:List (TPart×List TItem)):List TItem:=vs.flatMap fun v=>pit v.1 v.2
theorem itm_app (a b:List (TPart×List TItem)):itm (a++b)=itm a++itm b:=List.flatMap_append ..
abbrev fsts (vs:List (TPart×List TItem)):List TPart:=vs.map (·.1)
structure VOk (Q:List TQueue) (vs:List (TPart×List TItem)):Prop where
  ok : ∀ v∈vs,PartOk Q v
  len:vs.length<1000
theorem PartOk.len {Q:List TQueue} {v:TPart×List TItem} (h:PartOk Q v):(pit v.1 v.2).length<1000:=by
  obtain ⟨t,_,h2⟩:=h
  exact Nat.lt_of_le_of_lt (pit_len _ _) h2.len
theorem itm_len {Q:List TQueue} : ∀ {vs:List (TPart×List TItem)},(∀ v∈vs,PartOk Q v)→(itm vs).length≤1000*vs.length
  | [], _ => by simp [itm]
  | v :: vs, h => by
    have h1:=(h v List.mem_cons_self).len
    have h2:=itm_len (vs:=vs) (fun w hw=>h w (List.mem_cons_of_mem _ hw))
    have:itm (v::vs)=pit v.1 v.2++itm vs:=rfl
    rw [this,List.length_append,List.length_cons];omega
theorem vtake {vs:List (TPart×List TItem)} {i:Nat} {v:TPart×List TItem} (h:vs[i]? = some v):itm (vs.take (i+1))=itm (vs.take i)++pit v.1 v.2:=by
  rw [take_snoc h,itm_app];simp [itm]
theorem VOk.itm_lt {Q:List TQueue} {vs:List (TPart×List TItem)} (h:VOk Q vs) (i:Nat):(itm (vs.take i)).length<999001:=by
  have h1:=itm_len (vs:=vs.take i) (fun w hw=>h.ok w (List.mem_of_mem_take hw))
  have h2:=List.length_take_le' i vs
  have:=h.len
  have:(vs.take i).length≤999:=by omega
  omega
theorem atL_fst {vs:List (TPart×List TItem)} {i:Nat} {v:TPart×List TItem} (h:vs[i]? = some v):atL (fsts vs) (i:Int)=some v.1:=atL_nat (by simp [h])
theorem len_loop {Q : List TQueue} {vs : List (TPart × List TItem)} (h : VOk Q vs) : ∀ (d i n : Nat), i + d = vs.length → d < n →
    fuse_Views_Len.l0 K1 Q ⟨fsts vs⟩ n (((itm (vs.take i)).length:Int),(i:Int))=some ((itm vs).length:Int)
  | d, i, 0, _, h => by omega
  | 0, i, n + 1, hi, _ => by
    have e:=List.take_of_length_le (l:=vs) (i:=i) (by omega)
    simp only [fuse_Views_Len.l0,List.length_map,e]
    rw [dec_nlt (by omega)];rfl
  | d + 1, i, n + 1, hi, hn => by
    obtain ⟨v,hv,_⟩:=drop_cons (l:=vs) (i:=i) (by omega)
    have ho:=h.ok v (List.mem_of_getElem? hv)
    have h1:=h.itm_lt i
    have h2:=ho.len
    have hl:=h.len
    simp only [fuse_Views_Len.l0,List.length_map]
    rw [dec_lt (by omega),cond_true,atL_fst hv,Option.bind_some,psize_ok ho,Option.bind_some,w64_succ (by omega),w64_id (by omega) (by omega)]
    have e:((itm (vs.take i)).length:Int)+((pit v.1 v.2).length:Int)=((itm (vs.take (i+1))).length:Int):=by rw [vtake hv,List.length_append];omega
    rw [e]
    exact len_loop h d (i+1) n (by omega) (by omega)
theorem vlen_ok {Q:List TQueue} {vs:List (TPart×List TItem)} (h:VOk Q vs):fuse_Views_Len.f K1 Q ⟨fsts vs⟩=some ((itm vs).length:Int):=by
  have:=len_loop h vs.length 0 K1 (by omega) (by have:=h.len;unfold K1;omega)
  unfold fuse_Views_Len.f
  replace this:fuse_Views_Len.l0 K1 Q ⟨fsts vs⟩ K1 (0,0)=_:=this
  rw [this];rfl
theorem rank_loop {Q : List TQueue} {vs : List (TPart × List TItem)} (h : VOk Q vs) (x : TItem) : ∀ (d i n : Nat), i + d = vs.length → d < n →
    fuse_Views_rank.l0 K1 Q ⟨fsts vs⟩ x n (((below (itm (vs.take i)) x).length:Int),(i:Int))=some ((below (itm vs) x).length:Int)
  | d, i, 0, _, h => by omega
  | 0, i, n + 1, hi, _ => by
    have e:=List.take_of_length_le (l:=vs) (i:=i) (by omega)
    simp only [fuse_Views_rank.l0,List.length_map,e]
    rw [dec_nlt (by omega)];rfl
  | d + 1, i, n + 1, hi, hn => by
    obtain ⟨v,hv,_⟩:=drop_cons (l:=vs) (i:=i) (by omega)
    have ho:=h.ok v (List.mem_of_getElem? hv)
    have h1:=h.itm_lt i
    have h2:=ho.len
    have h3:=below_len (itm (vs.take i)) x
    have h4:=below_len (pit v.1 v.2) x
    have hl:=h.len
    simp only [fuse_Views_rank.l0,List.length_map]
    rw [dec_lt (by omega),cond_true,atL_fst hv,Option.bind_some,prank_ok ho,Option.bind_some,w64_succ (by omega),w64_id (by omega) (by omega)]
    have e:((below (itm (vs.take i)) x).length:Int)+((below (pit v.1 v.2) x).length:Int)=((below (itm (vs.take (i+1))) x).length:Int):=by rw [vtake hv,below_app,List.length_append];omega
    rw [e]
    exact rank_loop h x d (i+1) n (by omega) (by omega)
theorem vrank_ok {Q:List TQueue} {vs:List (TPart×List TItem)} (h:VOk Q vs) (x:TItem):fuse_Views_rank.f K1 Q ⟨fsts vs⟩ x=some ((below (itm vs) x).length:Int):=by
  have:=rank_loop h x vs.length 0 K1 (by omega) (by have:=h.len;unfold K1;omega)
  unfold fuse_Views_rank.f
  replace this:fuse_Views_rank.l0 K1 Q ⟨fsts vs⟩ x K1 (0,0)=_:=this
  rw [this];rfl
theorem below_mono {U:List TItem} {x y:TItem} (h:ilt x y):(below U x).length≤(below U y).length:=by
  unfold below
  rw [← List.countP_eq_length_filter,← List.countP_eq_length_filter]
  exact List.countP_mono_left (fun z _ hz=>decide_eq_true (ilt_trans (of_decide_eq_true hz) h))
end Go.Proofs.YtgjbibabegabnaaGreat
