/- My texts that the proof of PartialOne rests on, part 7: a calculus of walks, the walks, and the plain law. -/
import Derived.Test.YtpeoalmhccmdiaaGreatZdf
set_option linter.unusedVariables false
set_option linter.unusedSimpArgs false
namespace Go.Proofs.YtpeoalmhccmdiaaGreat
open Go Go.Proofs.YtpeoalmhccmdiaaGreat.Sx
def Chg (ch : TChange) (m m' : List TMark) : Prop :=
  (ch = ⟨[], []⟩ ∧ (hereI m').Perm (hereI m)) ∨ (∃ y, ch = ⟨[y], []⟩ ∧ (hereI m').Perm (y :: hereI m)) ∨ (∃ y, ch = ⟨[], [y]⟩ ∧ (hereI m).Perm (y :: hereI m'))
structure QOk (q : TQueue) (m : List TMark) (E c : Int) (B : Nat) : Prop where
  rep : QRep q m c B
  cert : CertM m E
  exc : q.excess = E
theorem turn_permG {m : List TMark} (hd : Dist m) {x : TMark} (hx : x ∈ m) (h : isG x) : (hereI (turnM x.op.item true m)).Perm (x.op.item :: hereI m) := by
  obtain ⟨A, D, rfl⟩ := List.append_of_mem hx
  rw [turnM_mid hd h.1 true, hereI_mid, hereI_mid, (one_G h).1, (one_S (x := ⟨x.op, true, x.took⟩) ⟨h.1, rfl⟩).1]; exact List.perm_middle
theorem turn_permS {m : List TMark} (hd : Dist m) {x : TMark} (hx : x ∈ m) (h : isS x) : (hereI m).Perm (x.op.item :: hereI (turnM x.op.item false m)) := by
  obtain ⟨A, D, rfl⟩ := List.append_of_mem hx
  rw [turnM_mid hd h.1 false, hereI_mid, hereI_mid, (one_S h).1, (one_G (x := ⟨x.op, false, x.took⟩) ⟨h.1, rfl⟩).1]; exact List.perm_middle
theorem dist_ins {A D : List TMark} {x : TMark} (hd : Dist (A ++ D)) (hn : x.op.insert = true → ∀ y ∈ A ++ D, y.op.insert = true → y.op.item ≠ x.op.item) : Dist (A ++ x :: D) := by
  intro i j a b ha hb h1 h2 h3
  by_cases ei : i = A.length
  · subst ei
    rw [get_mid] at ha; cases ha
    by_cases ej : j = A.length
    · exact ej.symm
    · obtain ⟨k, rfl⟩ := PQ.sh_ex ej
      rw [get_sh] at hb
      exact absurd h3.symm (hn h1 b (List.mem_of_getElem? hb) h2)
  · obtain ⟨k, rfl⟩ := PQ.sh_ex ei
    rw [get_sh] at ha
    by_cases ej : j = A.length
    · subst ej
      rw [get_mid] at hb; cases hb
      exact absurd h3 (hn h2 a (List.mem_of_getElem? ha) h1)
    · obtain ⟨l, rfl⟩ := PQ.sh_ex ej
      rw [get_sh] at hb
      rw [hd k l a b ha hb h1 h2 h3]
theorem dist_del {A D : List TMark} {x : TMark} (hd : Dist (A ++ x :: D)) : Dist (A ++ D) := by
  intro i j a b ha hb h1 h2 h3
  have := hd (PQ.sh A.length i) (PQ.sh A.length j) a b (by rw [get_sh]; exact ha) (by rw [get_sh]; exact hb) h1 h2 h3
  have c1 := PQ.sh_cases A.length i; have c2 := PQ.sh_cases A.length j
  omega
theorem CutM.turn {t : Int} {m A M D : List TMark} (h : CutM t m A M D) (it : TItem) (b : Bool) : CutM t (turnM it b m) (turnM it b A) (turnM it b M) (turnM it b D) := by
  have key : ∀ (l : List TMark) (x : TMark), x ∈ turnM it b l → ∃ y ∈ l, x.op = y.op := fun l x hx => by
    obtain ⟨y, h1, rfl⟩ := List.mem_map.1 hx
    exact ⟨y, h1, turnF_op ..⟩
  refine ⟨by rw [h.eq, turnM_app, turnM_app], fun x hx => ?_, fun x hx => ?_, ?_⟩
  · obtain ⟨y, h1, h2⟩ := key A x hx; rw [h2]; exact h.la y h1
  · obtain ⟨y, h1, h2⟩ := key D x hx; rw [h2]; exact h.lb y h1
  · rcases h.lm with h1 | ⟨y, h1, h2⟩
    · exact .inl (by rw [h1]; rfl)
    · exact .inr ⟨turnF it b y, by rw [h1]; rfl, by rw [turnF_op]; exact h2⟩
section
variable {q : TQueue} {m A D : List TMark} {c : Int} {B : Nat} {E t : Int}
theorem addD (h : QRep q m c B) (hc : CutM t m A [] D) (hl : (m.length : Int) ≠ c) (hl2 : m.length < 100) (hb9 : B + 1 < 900000) : ∃ r p, Tree_Put.f opsM K1 q.marks.p q.marks.r (keyM t) = some (true, r, p) ∧ QRep ⟨q.capacity, ⟨p, r⟩, q.present, q.gone, q.times, q.excess⟩ (A ++ keyM t :: D) c (B + 1) := by
  have hlim := h.lim; have hbnd := h.bnd; have hlen := h.len
  have e : m = A ++ D := by have := hc.eq; rwa [List.nil_append] at this
  have hl3 : (A ++ keyM t :: D).length = m.length + 1 := by rw [e]; simp; omega
  obtain ⟨r, p, m1, m2⟩ := mput h.marks (by omega) (by omega) (keyM t) (A := A) (M := []) (D := D) hc (fun _ => hl)
  have e1 : hereI (A ++ keyM t :: D) = hereI m := by rw [hereI_mid, (one_D (x := keyM t) rfl).1, e, hereI_app]; rfl
  have e2 : goneI (A ++ keyM t :: D) = goneI m := by rw [goneI_mid, (one_D (x := keyM t) rfl).2.1, e, goneI_app]; rfl
  have e3 : slotsOf (A ++ keyM t :: D) = slotsOf m := by rw [slotsOf_mid, (one_D (x := keyM t) rfl).2.2, e, slotsOf_app]; rfl
  obtain ⟨Tp, p1, p2⟩ := h.pres; obtain ⟨Tg, g1, g2⟩ := h.gone; obtain ⟨Tt, t1, t2⟩ := h.times
  refine ⟨r, p, m1, ⟨h.cap, m2, ⟨Tp, p1.mono (by omega) (by omega), e1 ▸ p2⟩, ⟨Tg, g1.mono (by omega) (by omega), e2 ▸ g2⟩, ⟨Tt, t1.mono (by omega) (by omega), e3 ▸ t2⟩, dist_ins (e ▸ h.dist) (fun h => by cases h), by omega, by omega, hb9, fun y hy => ?_⟩⟩
  rcases List.mem_append.1 hy with hy | hy
  · exact h.plain y (by rw [e]; exact List.mem_append_left _ hy)
  · rcases List.mem_cons.1 hy with rfl | hy
    · exact ⟨rfl, fun _ => ⟨rfl, rfl⟩⟩
    · exact h.plain y (by rw [e]; exact List.mem_append_right _ hy)
theorem dropD (h : QRep q m c B) {y : TMark} (hc : CutM t m A [y] D) (hy : y.op.insert = false) : ∃ r p, Tree_Drop.f opsM K1 q.marks.p q.marks.r (keyM t) = some (y, true, r, p) ∧ QRep ⟨q.capacity, ⟨p, r⟩, q.present, q.gone, q.times, q.excess⟩ (A ++ D) c B := by
  have hlim := h.lim; have hbnd := h.bnd; have hlen := h.len
  have e : m = A ++ y :: D := hc.eq
  have hl3 : m.length = (A ++ D).length + 1 := by rw [e]; simp; omega
  obtain ⟨r, p, m1, m2⟩ := mdrop h.marks (by omega) hc
  have e1 : hereI m = hereI (A ++ D) := by rw [e, hereI_mid, (one_D hy).1, hereI_app]; rfl
  have e2 : goneI m = goneI (A ++ D) := by rw [e, goneI_mid, (one_D hy).2.1, goneI_app]; rfl
  have e3 : slotsOf m = slotsOf (A ++ D) := by rw [e, slotsOf_mid, (one_D hy).2.2, slotsOf_app]; rfl
  have hd := h.dist
  rw [e] at hd
  refine ⟨r, p, m1, ⟨h.cap, m2, e1 ▸ h.pres, e2 ▸ h.gone, e3 ▸ h.times, dist_del hd, by omega, by omega, h.bnd, fun x hx => h.plain x ?_⟩⟩
  rw [e]
  rcases List.mem_append.1 hx with hx | hx
  · exact List.mem_append_left _ hx
  · exact List.mem_append_right _ (List.mem_cons_of_mem _ hx)
theorem sdrop_none {p : PN TSlot TSize} {r : TRef} {l : List TItem} {x : TItem} (h : ∃ T, GrS p r T c B ∧ T.Perm (sls l)) (hl : l.length < 1000) (hx : x ∉ l) : ∃ e b r' p', Tree_Drop.f opsS K1 p r (slot x) = some (e, b, r', p') ∧ ∃ T, GrS p' r' T c B ∧ T.Perm (sls l) := by
  obtain ⟨T, h1, h2⟩ := h
  have hlen : T.length = l.length := by rw [h2.length_eq, List.length_map]
  obtain ⟨e, b, r', p', T', d1, d2, d3⟩ := sdrop h1 (by omega) x
  refine ⟨e, b, r', p', d1, T', d2, ?_⟩
  rcases d3 with ⟨s, s1, s2⟩ | ⟨_, s2⟩
  · have := (sls_item (h2.mem_iff.1 (s2.mem_iff.2 List.mem_cons_self))).2
    rw [s1] at this; exact absurd this hx
  · rw [s2]; exact h2
theorem sdrop_some {p : PN TSlot TSize} {r : TRef} {l l' : List TItem} {x : TItem} (h : ∃ T, GrS p r T c B ∧ T.Perm (sls l)) (hl : l.length < 1000) (hx : l.Perm (x :: l')) : ∃ e b r' p', Tree_Drop.f opsS K1 p r (slot x) = some (e, b, r', p') ∧ ∃ T, GrS p' r' T c B ∧ T.Perm (sls l') := by
  obtain ⟨T, h1, h2⟩ := h
  have hlen : T.length = l.length := by rw [h2.length_eq, List.length_map]
  obtain ⟨e, b, r', p', T', d1, d2, d3⟩ := sdrop h1 (by omega) x
  refine ⟨e, b, r', p', d1, T', d2, ?_⟩
  rcases d3 with ⟨s, s1, s2⟩ | ⟨s1, _⟩
  · exact perm_less h2 hx s2 s1
  · exact absurd rfl (s1 (slot x) (h2.mem_iff.2 (List.mem_map_of_mem (hx.mem_iff.2 List.mem_cons_self))))
theorem dropI (h : QRep q m c B) {y : TMark} (hc : CutM t m A [y] D) (hy : y.op.insert = true) : ∃ r p, Tree_Drop.f opsM K1 q.marks.p q.marks.r (keyM t) = some (y, true, r, p) ∧ ∃ e1 b1 r1 p1, Tree_Drop.f opsS K1 q.present.p q.present.r (slot y.op.item) = some (e1, b1, r1, p1) ∧
    ∃ e2 b2 r2 p2, Tree_Drop.f opsS K1 q.gone.p q.gone.r (slot y.op.item) = some (e2, b2, r2, p2) ∧ ∃ e3 b3 r3 p3, Tree_Drop.f opsS K1 q.times.p q.times.r (slot y.op.item) = some (e3, b3, r3, p3) ∧
    QRep ⟨q.capacity, ⟨p, r⟩, ⟨p1, r1⟩, ⟨p2, r2⟩, ⟨p3, r3⟩, q.excess⟩ (A ++ D) c B := by
  have hlim := h.lim; have hbnd := h.bnd; have hlen := h.len
  have e : m = A ++ y :: D := hc.eq
  have hl3 : m.length = (A ++ D).length + 1 := by rw [e]; simp; omega
  obtain ⟨r, p, m1, m2⟩ := mdrop h.marks (by omega) hc
  have ls := len_split m
  have hmem : y ∈ m := by rw [e]; simp
  have hd := h.dist
  rw [e] at hd
  have hP : ∃ e1 b1 r1 p1, Tree_Drop.f opsS K1 q.present.p q.present.r (slot y.op.item) = some (e1, b1, r1, p1) ∧ ∃ T, GrS p1 r1 T c B ∧ T.Perm (sls (hereI (A ++ D))) := by
    cases hh : y.here with
    | true => exact sdrop_some h.pres (by omega) (by rw [e, hereI_mid, (one_S ⟨hy, hh⟩).1, hereI_app]; exact List.perm_middle)
    | false =>
      have e1 : hereI m = hereI (A ++ D) := by rw [e, hereI_mid, (one_G ⟨hy, hh⟩).1, hereI_app]; rfl
      rw [← e1]
      exact sdrop_none h.pres (by omega) (not_here h.dist hmem hy hh)
  have hG : ∃ e1 b1 r1 p1, Tree_Drop.f opsS K1 q.gone.p q.gone.r (slot y.op.item) = some (e1, b1, r1, p1) ∧ ∃ T, GrS p1 r1 T c B ∧ T.Perm (sls (goneI (A ++ D))) := by
    cases hh : y.here with
    | false => exact sdrop_some h.gone (by omega) (by rw [e, goneI_mid, (one_G ⟨hy, hh⟩).2, goneI_app]; exact List.perm_middle)
    | true =>
      have e1 : goneI m = goneI (A ++ D) := by rw [e, goneI_mid, (one_S ⟨hy, hh⟩).2, goneI_app]; rfl
      rw [← e1]
      exact sdrop_none h.gone (by omega) (not_gone h.dist hmem hy hh)
  obtain ⟨e1, b1, r1, p1, a1, a2⟩ := hP
  obtain ⟨e2, b2, r2, p2, a3, a4⟩ := hG
  obtain ⟨Tt, t1, t2⟩ := h.times
  have lt : Tt.length ≤ m.length := by rw [t2.length_eq]; exact len_slots m
  obtain ⟨e3, b3, r3, p3, T3, a5, a6, a7⟩ := sdrop t1 (by omega) y.op.item
  refine ⟨r, p, m1, e1, b1, r1, p1, a1, e2, b2, r2, p2, a3, e3, b3, r3, p3, a5, ⟨h.cap, m2, a2, a4, ⟨T3, a6, ?_⟩, dist_del hd, by omega, by omega, h.bnd, fun x hx => h.plain x ?_⟩⟩
  · have hs0 : (slotsOf m).Perm (⟨y.op.item, true, y.op.time⟩ :: slotsOf (A ++ D)) := by rw [e, slotsOf_mid, one_I hy, slotsOf_app]; exact List.perm_middle
    rcases a7 with ⟨s, s1, s2⟩ | ⟨s1, _⟩
    · have hsm : s ∈ slotsOf m := t2.mem_iff.1 (s2.mem_iff.2 List.mem_cons_self)
      obtain ⟨y', y1, y2, rfl⟩ := mem_slotsOf.1 hsm
      have := h.dist.eq y1 hmem y2 hy s1
      subst this
      exact (s2.symm.trans (t2.trans hs0)).cons_inv
    · exact absurd rfl (s1 _ (t2.mem_iff.2 (hs0.mem_iff.2 List.mem_cons_self)))
  · rw [e]
    rcases List.mem_append.1 hx with hx | hx
    · exact List.mem_append_left _ hx
    · exact List.mem_append_right _ (List.mem_cons_of_mem _ hx)
theorem may_ok {M : List TMark} (h : QRep q m c B) (hc : CutM t m A M D) : partial_Queue_may.f K1 q t = some (if (m.length : Int) = c then 10 else if M = [] then 0 else 11) := by
  have hlim := h.lim
  unfold partial_Queue_may.f
  simp only [len_ok h.marks, Option.bind_some, h.cap, key_ok, mfind h.marks (by omega) hc]
  by_cases e : (m.length : Int) = c
  · rw [if_pos e]; simp [e]
  · rw [if_neg e]
    have : ((m.length : Int) == c) = false := by simpa using e
    rw [this]
    rcases hc.lm with h1 | ⟨y, h1, _⟩
    · subst h1; rfl
    · subst h1; simp [fnd]
theorem insert_no {M : List TMark} (h : QRep q m c B) (hc : CutM t m A M D) (x : TItem) :
    ((m.length : Int) = c → partial_Queue_Insert.f K1 q t x = some (⟨[], []⟩, 10, q)) ∧ ((m.length : Int) ≠ c → M ≠ [] → partial_Queue_Insert.f K1 q t x = some (⟨[], []⟩, 11, q)) ∧
    ((m.length : Int) ≠ c → M = [] → (∃ y ∈ m, y.op.insert = true ∧ y.op.item = x) → partial_Queue_Insert.f K1 q t x = some (⟨[], []⟩, 2, q)) := by
  have hlim := h.lim
  refine ⟨fun e => ?_, fun e e2 => ?_, fun e e2 => ?_⟩
  · unfold partial_Queue_Insert.f
    rw [may_ok h hc, if_pos e]; rfl
  · unfold partial_Queue_Insert.f
    rw [may_ok h hc, if_neg e, if_neg e2]; rfl
  · rintro ⟨y, y1, y2, y3⟩
    obtain ⟨Tt, t1, t2⟩ := h.times
    have lt : Tt.length ≤ m.length := by rw [t2.length_eq]; exact len_slots m
    obtain ⟨s, b, f1, f2⟩ := sfind t1 (by omega) x
    have hb : b = true := by
      rcases f2 with ⟨h1, _⟩ | ⟨_, h1⟩
      · exact h1
      · exact absurd y3 (h1 ⟨y.op.item, true, y.op.time⟩ (t2.mem_iff.2 (mem_slotsOf.2 ⟨y, y1, y2, rfl⟩)))
    subst hb
    unfold partial_Queue_Insert.f
    rw [may_ok h hc, if_neg e, if_pos e2]
    simp only [Option.bind_some, of_ok, f1]
    rfl
theorem insert_ok (h : QOk q m E c B) (hc : CutM t m A [] D) (x : TItem) (hl : (m.length : Int) ≠ c) (hl2 : m.length < 100) (hn : ∀ y ∈ m, y.op.insert = true → y.op.item ≠ x) (hb9 : B + 2 < 900000) :
    ∃ ch q' m' E', partial_Queue_Insert.f K1 q t x = some (ch, 0, q') ∧ QOk q' m' E' c (B + 2) ∧ m'.map (·.op) = A.map (·.op) ++ (⟨t, true, x⟩ :: D.map (·.op)) ∧ Chg ch m m' := by
  have hlim := h.rep.lim; have hbnd := h.rep.bnd; have hlen := h.rep.len
  have e : m = A ++ D := by have := hc.eq; rwa [List.nil_append] at this
  let xm : TMark := ⟨⟨t, true, x⟩, false, zTTook⟩
  have hxG : isG xm := ⟨rfl, rfl⟩
  have hl3 : (A ++ xm :: D).length = m.length + 1 := by rw [e]; simp; omega
  have hsm := cert_small h.cert
  obtain ⟨Tp, p1, p2⟩ := h.rep.pres; obtain ⟨Tg, g1, g2⟩ := h.rep.gone; obtain ⟨Tt, t1, t2⟩ := h.rep.times
  have ls := len_split m
  have lt : Tt.length ≤ m.length := by rw [t2.length_eq]; exact len_slots m
  have lg : Tg.length = (goneI m).length := by rw [g2.length_eq]; simp
  obtain ⟨s, b, f1, f2⟩ := sfind t1 (by omega) x
  have hT : ∀ s' ∈ Tt, s'.item ≠ x := fun s' hs' => by
    obtain ⟨y, y1, y2, rfl⟩ := mem_slotsOf.1 (t2.mem_iff.1 hs')
    exact hn y y1 y2
  have hb : b = false := by
    rcases f2 with ⟨_, h1, h2⟩ | ⟨h1, _⟩
    · exact absurd h2 (hT s h1)
    · exact h1
  subst hb
  obtain ⟨v, v1, v2⟩ := prior_ok h.rep.marks (by omega) (base := E) ⟨by omega, by omega⟩ (A.length : Int)
  rw [clampN_nat (by rw [e]; simp)] at v2
  obtain ⟨r3, p3, T3, u1, u2, u3⟩ := sput t1 (by omega) (by omega) ⟨x, true, t⟩ hT (by omega)
  obtain ⟨r4, p4, w1, w2⟩ := mput h.rep.marks (by omega) (by omega) xm (A := A) (M := []) (D := D) hc (fun _ => hl)
  obtain ⟨r5, p5, T5, y1, y2, y3⟩ := sput g1 (by omega) (by omega) (slot x) (fun s' hs' e' => by
    have := (sls_item (g2.mem_iff.1 hs')).2
    rw [e'] at this
    obtain ⟨i, y, z1, z2, z3⟩ := mem_goneI.1 this
    exact hn y (List.mem_of_getElem? z1) z2.1 z3) (by omega)
  have e1 : hereI (A ++ xm :: D) = hereI m := by rw [hereI_mid, (one_G hxG).1, e, hereI_app]; rfl
  have e2 : (goneI (A ++ xm :: D)).Perm (x :: goneI m) := by rw [goneI_mid, (one_G hxG).2, e, goneI_app]; exact List.perm_middle
  have e3 : (slotsOf (A ++ xm :: D)).Perm (⟨x, true, t⟩ :: slotsOf m) := by rw [slotsOf_mid, one_I (x := xm) rfl, e, slotsOf_app]; exact List.perm_middle
  have hd1 : Dist (A ++ xm :: D) := dist_ins (e ▸ h.rep.dist) (fun _ => e ▸ hn)
  have hR : ∀ ex, QRep ⟨q.capacity, ⟨p4, r4⟩, q.present, ⟨p5, r5⟩, ⟨p3, r3⟩, ex⟩ (A ++ xm :: D) c (B + 1) := fun ex =>
    ⟨h.rep.cap, w2, ⟨Tp, p1.mono (by omega) (by omega), e1 ▸ p2⟩, ⟨T5, y2, y3.trans ((g2.cons _).trans (e2.map slot).symm)⟩, ⟨T3, u2, u3.trans ((t2.cons _).trans e3.symm)⟩, hd1, by omega, by omega, by omega, fun y hy => by
      rcases List.mem_append.1 hy with hy | hy
      · exact h.rep.plain y (by rw [e]; exact List.mem_append_left _ hy)
      · rcases List.mem_cons.1 hy with rfl | hy
        · exact ⟨rfl, fun h => by cases h⟩
        · exact h.rep.plain y (by rw [e]; exact List.mem_append_right _ hy)⟩
  have ho : (A ++ xm :: D).map (·.op) = A.map (·.op) ++ (⟨t, true, x⟩ :: D.map (·.op)) := by simp [xm]
  unfold partial_Queue_Insert.f
  rw [may_ok h.rep hc, if_neg hl, if_pos rfl]
  have hz : ((0 : Int) != 0) = false := rfl
  simp only [Option.bind_some, hz, cond_false, of_ok, f1, key_ok, mrank h.rep.marks (by omega) hc, h.exc, v1, u1]
  rw [show (TMark.mk (TOp.mk t true x) false zTTook) = xm from rfl]
  simp only [w1, Option.bind_some, y1]
  rcases edit_insert hxG hd1 (e ▸ h.cert) (e ▸ v2) with ⟨rfl, hcert⟩ | ⟨b, rfl, hb1, hbest⟩
  · have hw : w64 (E - 1) = E - 1 := w64_id (by omega) (by omega)
    have e0 : decide ((-1 : Int) < 0) = true := rfl
    simp only [e0, cond_true, hw]
    exact ⟨_, _, _, E - 1, rfl, ⟨⟨(hR _).cap, (hR (E - 1)).marks.mono (by omega) (by omega), (hR (E - 1)).pres.imp (fun T h => ⟨h.1.mono (by omega) (by omega), h.2⟩), (hR (E - 1)).gone.imp (fun T h => ⟨h.1.mono (by omega) (by omega), h.2⟩), (hR (E - 1)).times.imp (fun T h => ⟨h.1.mono (by omega) (by omega), h.2⟩), hd1, (hR (E - 1)).len, (hR (E - 1)).lim, hb9, (hR (E - 1)).plain⟩, hcert, rfl⟩, ho, .inl ⟨rfl, by rw [e1]⟩⟩
  · have e0 : decide ((b : Int) < 0) = false := by simp
    have hbl : b ≤ (A ++ xm :: D).length := by simp; omega
    obtain ⟨best, b1, b2⟩ := best_ok w2 (by omega) hbl
    obtain ⟨c1, c2, z, y, z1, z2, z3⟩ := hbest best b2
    obtain ⟨q', k1, k2, k3⟩ := turn_ok (hR E) (List.mem_of_getElem? z1) z2.1 (hh := true) z2.2 hb9
    have hp := turn_permG hd1 (List.mem_of_getElem? z1) z2
    rw [z3] at k1 k2 hp
    rw [e1] at hp
    simp only [e0, cond_false, b1, Option.bind_some, k1]
    exact ⟨_, _, _, E, rfl, ⟨k2, c2, k3⟩, by rw [turnM_ops]; exact ho, .inr (.inl ⟨_, rfl, hp⟩)⟩
theorem delete_no {M : List TMark} (h : QRep q m c B) (hc : CutM t m A M D) :
    ((m.length : Int) = c → partial_Queue_Delete.f K1 q t = some (⟨[], []⟩, 10, q)) ∧ ((m.length : Int) ≠ c → M ≠ [] → partial_Queue_Delete.f K1 q t = some (⟨[], []⟩, 11, q)) := by
  refine ⟨fun e => ?_, fun e e2 => ?_⟩
  · unfold partial_Queue_Delete.f
    rw [may_ok h hc, if_pos e]; rfl
  · unfold partial_Queue_Delete.f
    rw [may_ok h hc, if_neg e, if_neg e2]; rfl
theorem delete_ok (h : QOk q m E c B) (hc : CutM t m A [] D) (hl : (m.length : Int) ≠ c) (hl2 : m.length < 100) (hb9 : B + 2 < 900000) :
    ∃ ch q' m' E', partial_Queue_Delete.f K1 q t = some (ch, 0, q') ∧ QOk q' m' E' c (B + 2) ∧ m'.map (·.op) = A.map (·.op) ++ (⟨t, false, zTItem⟩ :: D.map (·.op)) ∧ Chg ch m m' := by
  have hlim := h.rep.lim; have hbnd := h.rep.bnd; have hlen := h.rep.len
  have e : m = A ++ D := by have := hc.eq; rwa [List.nil_append] at this
  have hsm := cert_small h.cert
  have hd1 : Dist (A ++ keyM t :: D) := dist_ins (e ▸ h.rep.dist) (fun h => by cases h)
  have ho : (A ++ keyM t :: D).map (·.op) = A.map (·.op) ++ (⟨t, false, zTItem⟩ :: D.map (·.op)) := by simp [keyM]
  have e1 : hereI (A ++ keyM t :: D) = hereI m := by rw [hereI_mid, (one_D (x := keyM t) rfl).1, e, hereI_app]; rfl
  obtain ⟨v, v1, v2⟩ := leave_ok h.rep h.exc ⟨hsm.1, by omega⟩ (n := A.length) (by rw [e]; simp) (by omega)
  obtain ⟨b, rfl, hb1, hleast⟩ := edit_delete (x := keyM t) rfl hd1 (e ▸ h.cert) (e ▸ v1)
  obtain ⟨least, l1, l2⟩ := v2 b rfl (by rw [e]; exact hb1)
  unfold partial_Queue_Delete.f
  rw [may_ok h.rep hc, if_neg hl, if_pos rfl]
  have hz : ((0 : Int) != 0) = false := rfl
  simp only [Option.bind_some, hz, cond_false, key_ok, mrank h.rep.marks (by omega) hc]
  rw [e] at l1
  rcases hleast least l1 with ⟨g1, g2⟩ | ⟨g1, g2, z, y, z1, z2, z3⟩
  · rcases l2 with ⟨_, l3⟩ | ⟨l3, _⟩
    · obtain ⟨r, p, k1, k2⟩ := addD (h.rep.exc (E + 1)) hc hl hl2 (by omega)
      rw [l3]
      simp only [Option.bind_some] at k1 ⊢
      rw [k1]
      refine ⟨_, _, _, E + 1, rfl, ⟨⟨k2.cap, k2.marks.mono (by omega) (by omega), k2.pres.imp (fun T h => ⟨h.1.mono (by omega) (by omega), h.2⟩), k2.gone.imp (fun T h => ⟨h.1.mono (by omega) (by omega), h.2⟩), k2.times.imp (fun T h => ⟨h.1.mono (by omega) (by omega), h.2⟩), hd1, k2.len, k2.lim, hb9, k2.plain⟩, g2, rfl⟩, ho, .inl ⟨rfl, by rw [e1]⟩⟩
    · rw [g1] at l3; cases l3
  · rcases l2 with ⟨l3, _⟩ | ⟨_, l3⟩
    · rw [g1] at l3; cases l3
    · have hy : y ∈ m := by rw [e]; exact List.mem_of_getElem? z1
      obtain ⟨q', k1, k2, k3⟩ := l3 ⟨y, hy, z2, z3⟩
      have hcut := hc.turn least.item false
      have hml := turnM_len least.item false m
      obtain ⟨r, p, k4, k5⟩ := addD k2 hcut (by omega) (by omega) (by omega)
      rw [k1]
      simp only [Option.bind_some, k4]
      have e5 : turnM least.item false A ++ keyM t :: turnM least.item false D = turnM least.item false (A ++ keyM t :: D) := by
        rw [turnM_app, turnM_cons, turnF_del (x := keyM t) rfl]
      have hp := turn_permS h.rep.dist hy z2
      rw [z3] at hp
      rw [e5] at k5
      refine ⟨_, _, _, E, rfl, ⟨k5, g2, k3⟩, by rw [turnM_ops]; exact ho, .inr (.inr ⟨_, rfl, ?_⟩)⟩
      have e6 : hereI (turnM least.item false (A ++ keyM t :: D)) = hereI (turnM least.item false m) := by
        rw [← e5, hereI_mid, (one_D (x := keyM t) rfl).1, e, turnM_app, hereI_app]; rfl
      rw [e6]; exact hp
theorem revoke_no (h : QRep q m c B) (hc : CutM t m A [] D) : partial_Queue_Revoke.f K1 q t = some (⟨[], []⟩, 14, q) := by
  have hlim := h.lim
  unfold partial_Queue_Revoke.f
  simp only [key_ok, Option.bind_some, mfind h.marks (by omega) hc, fnd]
  rfl
theorem revoke_ok (h : QOk q m E c B) {y : TMark} (hc : CutM t m A [y] D) (hb9 : B + 2 < 900000) :
    ∃ ch q' m' E', partial_Queue_Revoke.f K1 q t = some (ch, 0, q') ∧ QOk q' m' E' c (B + 2) ∧ m'.map (·.op) = A.map (·.op) ++ D.map (·.op) ∧ Chg ch m m' := by
  have hlim := h.rep.lim; have hbnd := h.rep.bnd; have hlen := h.rep.len
  have e : m = A ++ y :: D := hc.eq
  have hsm := cert_small h.cert
  have hal : A.length + 1 ≤ m.length := by rw [e]; simp
  have hymem : y ∈ m := by rw [e]; simp
  have hd0 := h.rep.dist
  rw [e] at hd0
  have hd1 : Dist (A ++ D) := dist_del hd0
  have ho : (A ++ D).map (·.op) = A.map (·.op) ++ D.map (·.op) := by simp
  have up : ∀ {q' : TQueue} {m' : List TMark} {b : Nat}, QRep q' m' c b → b ≤ B + 2 → QRep q' m' c (B + 2) := fun k hk =>
    ⟨k.cap, k.marks.mono hk (by omega), k.pres.imp (fun T h => ⟨h.1.mono hk (by omega), h.2⟩), k.gone.imp (fun T h => ⟨h.1.mono hk (by omega), h.2⟩), k.times.imp (fun T h => ⟨h.1.mono hk (by omega), h.2⟩), k.dist, k.len, k.lim, hb9, k.plain⟩
  unfold partial_Queue_Revoke.f
  simp only [key_ok, Option.bind_some, mfind h.rep.marks (by omega) hc, fnd, Bool.not_true, cond_false, mrank h.rep.marks (by omega) hc, of_ok]
  cases hi : y.op.insert with
  | false =>
    simp only [Bool.not_false, cond_true]
    have e1 : hereI m = hereI (A ++ D) := by rw [e, hereI_mid, (one_D hi).1, hereI_app]; rfl
    obtain ⟨v, v1, v2, v3⟩ := enter_ok h.rep h.exc ⟨hsm.1, by omega⟩ (n := A.length) (by omega) (by omega)
    rcases edit_revD hi hd1 (e ▸ h.cert) (e ▸ v1) with ⟨rfl, hcert⟩ | ⟨b, rfl, hb1, hbest⟩
    · obtain ⟨r, p, k1, k2⟩ := dropD (h.rep.exc (E - 1)) hc hi
      rw [v2 rfl]
      simp only [Option.bind_some] at k1 ⊢
      rw [k1]
      exact ⟨_, _, _, E - 1, rfl, ⟨up k2 (by omega), hcert, rfl⟩, ho, .inl ⟨rfl, by rw [e1]⟩⟩
    · obtain ⟨best, b1, b2⟩ := v3 b rfl (by omega)
      rw [e] at b1
      obtain ⟨c1, c2, z, w, z1, z2, z3⟩ := hbest best b1
      have hw : w ∈ m := by
        rw [e]
        rcases List.mem_append.1 (List.mem_of_getElem? z1) with hw | hw
        · exact List.mem_append_left _ hw
        · exact List.mem_append_right _ (List.mem_cons_of_mem _ hw)
      obtain ⟨q', k1, k2, k3⟩ := b2 c1 ⟨w, hw, z2, z3⟩
      have hcut := hc.turn best.item true
      have e4 : turnM best.item true [y] = [y] := by rw [turnM_cons, turnF_del hi]; rfl
      rw [e4] at hcut
      obtain ⟨r, p, k4, k5⟩ := dropD k2 hcut hi
      rw [k1]
      simp only [Option.bind_some, k4]
      rw [← turnM_app] at k5
      have hp := turn_permG hd1 (List.mem_of_getElem? z1) z2
      rw [z3] at hp
      exact ⟨_, _, _, E, rfl, ⟨up k5 (by omega), c2, k3⟩, by rw [turnM_ops]; exact ho, .inr (.inl ⟨_, rfl, by rw [e1]; exact hp⟩)⟩
  | true =>
    simp only [Bool.not_true, cond_false]
    cases hh : y.here with
    | true =>
      simp only [Bool.not_true, cond_false, Option.bind_some]
      obtain ⟨r, p, k1, a1, a2, a3, a4, k2, b1, b2, b3, b4, k3, c1, c2, c3, c4, k4, k5⟩ := dropI h.rep hc hi
      simp only [k1, Option.bind_some, k2, k3, k4]
      refine ⟨_, _, _, E, rfl, ⟨up k5 (by omega), edit_revS ⟨hi, hh⟩ (e ▸ h.cert), h.exc⟩, ho, .inr (.inr ⟨_, rfl, ?_⟩)⟩
      rw [e, hereI_mid, (one_S ⟨hi, hh⟩).1, hereI_app]; exact List.perm_middle
    | false =>
      have hG : isG y := ⟨hi, hh⟩
      have e1 : hereI m = hereI (A ++ D) := by rw [e, hereI_mid, (one_G hG).1, hereI_app]; rfl
      have hw : w64 ((A.length : Int) + 1) = ((A.length + 1 : Nat) : Int) := w64_succ (by omega)
      obtain ⟨v, v1, v2⟩ := leave_ok h.rep h.exc ⟨hsm.1, by omega⟩ (n := A.length + 1) hal (by omega)
      obtain ⟨b, rfl, hb1, hleast⟩ := edit_revG hG hd1 (e ▸ h.cert) (e ▸ v1)
      obtain ⟨least, l1, l2⟩ := v2 b rfl (by rw [e]; exact hb1)
      rw [e] at l1
      simp only [Bool.not_false, cond_true, hw]
      rcases hleast least l1 with ⟨g1, g2⟩ | ⟨g1, g2, z, w, z1, z2, z3⟩
      · rcases l2 with ⟨_, l3⟩ | ⟨l3, _⟩
        · obtain ⟨r, p, k1, a1, a2, a3, a4, k2, b1, b2, b3, b4, k3, c1, c2, c3, c4, k4, k5⟩ := dropI (h.rep.exc (E + 1)) hc hi
          rw [l3]
          simp only [Option.bind_some] at k1 k2 k3 k4 ⊢
          simp only [k1, Option.bind_some, k2, k3, k4]
          exact ⟨_, _, _, E + 1, rfl, ⟨up k5 (by omega), g2, rfl⟩, ho, .inl ⟨rfl, by rw [e1]⟩⟩
        · rw [g1] at l3; cases l3
      · rcases l2 with ⟨l3, _⟩ | ⟨_, l3⟩
        · rw [g1] at l3; cases l3
        · have hwm : w ∈ m := by
            rw [e]
            rcases List.mem_append.1 (List.mem_of_getElem? z1) with hw | hw
            · exact List.mem_append_left _ hw
            · exact List.mem_append_right _ (List.mem_cons_of_mem _ hw)
          obtain ⟨q', k1, k2, k3⟩ := l3 ⟨w, hwm, z2, z3⟩
          have hcut := hc.turn least.item false
          have e4 : turnM least.item false [y] = [y] := by
            rw [turnM_cons]
            have : turnF least.item false y = y := by
              unfold turnF; split
              · cases y; simp at hh; simp [hh]
              · rfl
            rw [this]; rfl
          rw [e4] at hcut
          obtain ⟨r, p, k6, a1, a2, a3, a4, k7, b1, b2, b3, b4, k8, c1, c2, c3, c4, k9, k5⟩ := dropI k2 hcut hi
          rw [k1]
          simp only [Option.bind_some, k6, k7, k8, k9]
          rw [← turnM_app] at k5
          have hp := turn_permS hd1 (List.mem_of_getElem? z1) z2
          rw [z3] at hp
          exact ⟨_, _, _, E, rfl, ⟨up k5 (by omega), g2, k3⟩, by rw [turnM_ops]; exact ho, .inr (.inr ⟨_, rfl, by rw [e1]; exact hp⟩)⟩
end
end Go.Proofs.YtpeoalmhccmdiaaGreat
namespace Go.Proofs.YtpeoalmhccmdiaaGreat
open Go Go.Proofs.YtpeoalmhccmdiaaGreat.Sx
theorem take_snoc {α : Type} {l : List α} {i : Nat} {x : α} (h : l[i]? = some x) : l.take (i + 1) = l.take i ++ [x] := by rw [List.take_add_one, h]; rfl
theorem itemB (a b : TItem) : ((a.key == b.key) && ((a.id == b.id) && true)) = decide (a = b) := by
  by_cases h : a = b
  · subst h; simp
  · have : ¬ (a.key = b.key ∧ a.id = b.id) := fun h' => h (item_ext h'.1 h'.2)
    by_cases h1 : a.key = b.key
    · have h2 : (a.id == b.id) = false := by simpa using fun h2 => this ⟨h1, h2⟩
      simp [h, h2]
    · have h2 : (a.key == b.key) = false := by simpa using h1
      simp [h, h2]
theorem nat_in {a n : Nat} (h : a ≤ n) : decide ((0 : Int) ≤ (a : Int) ∧ (a : Int) ≤ (n : Int)) = true := by simp; omega
theorem sitems_loop (T : List TSlot) (hl : T.length < 1000000) : ∀ (d i n : Nat), i + d = T.length → d < n → shelf_Items.l0 K1 T n ((T.take i).map (·.item), (i : Int)) = some (T.map (·.item))
  | d, i, 0, _, h => by omega
  | 0, i, n + 1, hi, _ => by
    simp only [shelf_Items.l0]
    rw [dec_nlt (by omega), List.take_of_length_le (by omega)]; rfl
  | d + 1, i, n + 1, hi, hn => by
    obtain ⟨x, hx, _⟩ := drop_cons (l := T) (i := i) (by omega)
    have e : (T.take i).map (·.item) ++ [x.item] = (T.take (i + 1)).map (·.item) := by rw [take_snoc hx]; simp
    simp only [shelf_Items.l0]
    rw [dec_lt (by omega)]
    simp only [cond_true, atL_nat hx, Option.bind_some]
    rw [decide_eq_true (by simp; omega)]
    simp only [cond_true, e, w64_succ (i := i) (by omega)]
    exact sitems_loop T hl d (i + 1) n (by omega) (by omega)
theorem sitems {p : PN TSlot TSize} {r : TRef} {T : List TSlot} {c : Int} {B : Nat} (h : GrS p r T c B) (hl : T.length < 100000) : shelf_Items.f K1 p r = some (T.map (·.item)) := by
  have e := sitems_loop T (by omega) T.length 0 K1 (Nat.zero_add _) (by unfold K1; omega)
  replace e : shelf_Items.l0 K1 T K1 ([], 0) = some (T.map (·.item)) := e
  unfold shelf_Items.f
  rw [h.all okS (by decide) (by omega)]
  simp only [Option.bind_some, e]
theorem qops_loop (m : List TMark) (hl : m.length < 1000000) : ∀ (d i n : Nat), i + d = m.length → d < n → partial_Queue_Ops.l0 K1 m n ((m.take i).map (·.op), (i : Int)) = some (m.map (·.op))
  | d, i, 0, _, h => by omega
  | 0, i, n + 1, hi, _ => by
    simp only [partial_Queue_Ops.l0]
    rw [dec_nlt (by omega), List.take_of_length_le (by omega)]; rfl
  | d + 1, i, n + 1, hi, hn => by
    obtain ⟨x, hx, _⟩ := drop_cons (l := m) (i := i) (by omega)
    have e : (m.take i).map (·.op) ++ [x.op] = (m.take (i + 1)).map (·.op) := by rw [take_snoc hx]; simp
    simp only [partial_Queue_Ops.l0]
    rw [dec_lt (by omega)]
    simp only [cond_true, atL_nat hx, Option.bind_some]
    rw [decide_eq_true (by simp; omega)]
    simp only [cond_true, e, w64_succ (i := i) (by omega)]
    exact qops_loop m hl d (i + 1) n (by omega) (by omega)
theorem qops {q : TQueue} {m : List TMark} {c : Int} {B : Nat} (h : GrM q.marks.p q.marks.r m c B) (hl : m.length < 100000) : partial_Queue_Ops.f K1 q = some (m.map (·.op)) := by
  have e := qops_loop m (by omega) m.length 0 K1 (Nat.zero_add _) (by unfold K1; omega)
  replace e : partial_Queue_Ops.l0 K1 m K1 ([], 0) = some (m.map (·.op)) := e
  unfold partial_Queue_Ops.f
  rw [h.all okM (by decide) (by omega)]
  simp only [Option.bind_some, e]
theorem same_loop (l : List TItem) (hl : l.length < 1000000) : ∀ (d i n : Nat), i + d = l.length → d < n → R02_Same.l0 K1 l l n (i : Int) = some (Sum.inr ())
  | d, i, 0, _, h => by omega
  | 0, i, n + 1, hi, _ => by
    simp only [R02_Same.l0]
    rw [dec_nlt (by omega)]; rfl
  | d + 1, i, n + 1, hi, hn => by
    obtain ⟨x, hx, _⟩ := drop_cons (l := l) (i := i) (by omega)
    simp only [R02_Same.l0]
    rw [dec_lt (by omega)]
    simp only [cond_true, atL_nat hx, Option.bind_some, beq_self_eq_true, Bool.and_self, Bool.not_true, cond_false, w64_succ (i := i) (by omega)]
    exact same_loop l hl d (i + 1) n (by omega) (by omega)
theorem refSame (l : List TItem) (hl : l.length < 1000000) : R02_Same.f K1 l l = some true := by
  unfold R02_Same.f
  have e0 : ((l.length : Int) != (l.length : Int)) = false := by simp
  have hlt : l.length < K1 := by unfold K1; omega
  have e := same_loop l hl l.length 0 K1 (Nat.zero_add _) hlt
  replace e : R02_Same.l0 K1 l l K1 0 = some (Sum.inr ()) := e
  rw [e0, e]; rfl
theorem opsame_loop (l : List TOp) (hl : l.length < 1000000) : ∀ (d i n : Nat), i + d = l.length → d < n → R12_Ops.l0 K1 l l n (i : Int) = some (Sum.inr ())
  | d, i, 0, _, h => by omega
  | 0, i, n + 1, hi, _ => by
    simp only [R12_Ops.l0]
    rw [dec_nlt (by omega)]; rfl
  | d + 1, i, n + 1, hi, hn => by
    obtain ⟨x, hx, _⟩ := drop_cons (l := l) (i := i) (by omega)
    simp only [R12_Ops.l0]
    rw [dec_lt (by omega)]
    simp only [cond_true, atL_nat hx, Option.bind_some, beq_self_eq_true, Bool.and_self, Bool.not_true, cond_false, w64_succ (i := i) (by omega)]
    exact opsame_loop l hl d (i + 1) n (by omega) (by omega)
theorem refOps (l : List TOp) (hl : l.length < 1000000) : R12_Ops.f K1 l l = some true := by
  unfold R12_Ops.f
  have e0 : ((l.length : Int) != (l.length : Int)) = false := by simp
  have hlt : l.length < K1 := by unfold K1; omega
  have e := opsame_loop l hl l.length 0 K1 (Nat.zero_add _) hlt
  replace e : R12_Ops.l0 K1 l l K1 0 = some (Sum.inr ()) := e
  rw [e0, e]; rfl
theorem refCSame (c : TChange) (h1 : c.in_.length < 1000000) (h2 : c.out.length < 1000000) : R12_Same.f K1 c c = some true := by
  unfold R12_Same.f
  rw [refSame _ h1]
  simp only [Option.bind_some, cond_true, refSame _ h2]
theorem iat_loop (x : TItem) (l : List TItem) (hl : l.length < 1000000) : ∀ (d i n : Nat), i + d = l.length → d < n → (∀ y ∈ l.take i, y ≠ x) → ∃ v, R09_At.l0 K1 l x n (i : Int) = some v ∧ ((v = Sum.inr () ∧ x ∉ l) ∨ ∃ j : Nat, v = Sum.inl (j : Int) ∧ l[j]? = some x)
  | d, i, 0, _, h, _ => by omega
  | 0, i, n + 1, hi, _, h1 => by
    simp only [R09_At.l0]
    rw [dec_nlt (by omega)]
    rw [List.take_of_length_le (by omega)] at h1
    exact ⟨_, rfl, .inl ⟨rfl, fun h => h1 x h rfl⟩⟩
  | d + 1, i, n + 1, hi, hn, h1 => by
    obtain ⟨y, hy, _⟩ := drop_cons (l := l) (i := i) (by omega)
    simp only [R09_At.l0]
    rw [dec_lt (by omega)]
    simp only [cond_true, atL_nat hy, Option.bind_some, itemB]
    by_cases e : y = x
    · subst e
      simp only [decide_true, cond_true]
      exact ⟨_, rfl, .inr ⟨i, rfl, hy⟩⟩
    · simp only [e, decide_false, cond_false, w64_succ (i := i) (by omega)]
      refine iat_loop x l hl d (i + 1) n (by omega) (by omega) (fun z hz => ?_)
      rw [take_snoc hy] at hz
      rcases List.mem_append.1 hz with hz | hz
      · exact h1 z hz
      · rw [List.mem_singleton.1 hz]; exact e
theorem refIAt (x : TItem) (l : List TItem) (hl : l.length < 100000) : ∃ v, R09_At.f K1 l x = some v ∧ decide (v < 0) = decide (x ∉ l) := by
  obtain ⟨v, h1, h2⟩ := iat_loop x l (by omega) l.length 0 K1 (Nat.zero_add _) (by unfold K1; omega) (by simp)
  replace h1 : R09_At.l0 K1 l x K1 0 = some v := h1
  unfold R09_At.f
  rw [h1]
  rcases h2 with ⟨rfl, h2⟩ | ⟨j, rfl, h2⟩
  · exact ⟨-1, rfl, by simp [h2]⟩
  · refine ⟨(j : Int), rfl, ?_⟩
    have := List.mem_of_getElem? h2
    simp [this]
theorem change_loop0 (a b : List TItem) (ha : a.length < 100000) (hb : b.length < 100000) : ∀ (d i n : Nat), i + d = b.length → d < n → R12_Change.l0 K1 a b n ((b.take i).filter (fun x => decide (x ∉ a)), (i : Int)) = some (b.filter (fun x => decide (x ∉ a)))
  | d, i, 0, _, h => by omega
  | 0, i, n + 1, hi, _ => by
    simp only [R12_Change.l0]
    rw [dec_nlt (by omega), List.take_of_length_le (by omega)]; rfl
  | d + 1, i, n + 1, hi, hn => by
    obtain ⟨x, hx, _⟩ := drop_cons (l := b) (i := i) (by omega)
    obtain ⟨v, v1, v2⟩ := refIAt x a ha
    have hle : ((b.take i).filter (fun x => decide (x ∉ a))).length ≤ i := Nat.le_trans (List.length_filter_le ..) (by rw [List.length_take]; omega)
    have ih := change_loop0 a b ha hb d (i + 1) n (by omega) (by omega)
    rw [take_snoc hx, List.filter_append] at ih
    simp only [R12_Change.l0]
    rw [dec_lt (by omega)]
    simp only [cond_true, atL_nat hx, Option.bind_some, v1, v2, w64_succ (i := i) (by omega)]
    by_cases e : x ∈ a
    · have : [x].filter (fun x => decide (x ∉ a)) = [] := by simp [e]
      rw [this, List.append_nil] at ih
      simpa [e] using ih
    · have : [x].filter (fun x => decide (x ∉ a)) = [x] := by simp [e]
      rw [this] at ih
      rw [decide_eq_true e, cond_true, decide_eq_true (by rw [List.length_singleton]; omega), cond_true]
      exact ih
theorem change_loop1 (a b : List TItem) (ha : a.length < 100000) (hb : b.length < 100000) : ∀ (d i n : Nat), i + d = a.length → d < n → R12_Change.l1 K1 a b n ((a.take i).filter (fun x => decide (x ∉ b)), (i : Int)) = some (a.filter (fun x => decide (x ∉ b)))
  | d, i, 0, _, h => by omega
  | 0, i, n + 1, hi, _ => by
    simp only [R12_Change.l1]
    rw [dec_nlt (by omega), List.take_of_length_le (by omega)]; rfl
  | d + 1, i, n + 1, hi, hn => by
    obtain ⟨x, hx, _⟩ := drop_cons (l := a) (i := i) (by omega)
    obtain ⟨v, v1, v2⟩ := refIAt x b hb
    have hle : ((a.take i).filter (fun x => decide (x ∉ b))).length ≤ i := Nat.le_trans (List.length_filter_le ..) (by rw [List.length_take]; omega)
    have ih := change_loop1 a b ha hb d (i + 1) n (by omega) (by omega)
    rw [take_snoc hx, List.filter_append] at ih
    simp only [R12_Change.l1]
    rw [dec_lt (by omega)]
    simp only [cond_true, atL_nat hx, Option.bind_some, v1, v2, w64_succ (i := i) (by omega)]
    by_cases e : x ∈ b
    · have : [x].filter (fun x => decide (x ∉ b)) = [] := by simp [e]
      rw [this, List.append_nil] at ih
      simpa [e] using ih
    · have : [x].filter (fun x => decide (x ∉ b)) = [x] := by simp [e]
      rw [this] at ih
      rw [decide_eq_true e, cond_true, decide_eq_true (by rw [List.length_singleton]; omega), cond_true]
      exact ih
theorem refChange (a b : List TItem) (ha : a.length < 100000) (hb : b.length < 100000) : R12_Change.f K1 a b = some ⟨b.filter (fun x => decide (x ∉ a)), a.filter (fun x => decide (x ∉ b))⟩ := by
  have e0 := change_loop0 a b ha hb b.length 0 K1 (Nat.zero_add _) (by unfold K1; omega)
  have e1 := change_loop1 a b ha hb a.length 0 K1 (Nat.zero_add _) (by unfold K1; omega)
  replace e0 : R12_Change.l0 K1 a b K1 ([], 0) = some (b.filter (fun x => decide (x ∉ a))) := e0
  replace e1 : R12_Change.l1 K1 a b K1 ([], 0) = some (a.filter (fun x => decide (x ∉ b))) := e1
  unfold R12_Change.f
  simp only [e0, e1, Option.bind_some]
theorem runR_len (l : List TOp) : (runR l).here.length ≤ l.length ∧ (runR l).gone.length ≤ l.length ∧ (runR l).took.length = l.length ∧ 0 ≤ (runR l).free ∧ (runR l).free ≤ l.length := by
  have key : ∀ i, i ≤ l.length → (runR (l.take i)).here.length ≤ i ∧ (runR (l.take i)).gone.length ≤ i ∧ (runR (l.take i)).took.length = i ∧ 0 ≤ (runR (l.take i)).free ∧ (runR (l.take i)).free ≤ i := by
    intro i
    induction i with
    | zero => intro _; simp [runR]
    | succ i ih =>
      intro h
      obtain ⟨x, hx, _⟩ := drop_cons (l := l) (i := i) (by omega)
      obtain ⟨h1, h2, h3, h4, h5⟩ := ih (by omega)
      rw [runR_succ hx]
      unfold stepR
      split
      · have := (sins_perm x.item (runR (l.take i)).here).length_eq
        simp only [List.length_cons] at this
        simp only [List.length_append, List.length_singleton]; omega
      · split
        · rename_i hh; rw [hh] at h1; simp only [List.length_cons] at h1; simp only [List.length_append, List.length_singleton]; omega
        · rename_i hh; simp only [List.length_append, List.length_singleton, List.length_nil]; omega
  have := key l.length (Nat.le_refl _)
  rwa [List.take_length] at this
theorem runR_sorted (l : List TOp) : Sorted (runR l).here := by
  have key : ∀ i, i ≤ l.length → Sorted (runR (l.take i)).here := by
    intro i
    induction i with
    | zero => intro _; simp [runR]
    | succ i ih =>
      intro h
      obtain ⟨x, hx, _⟩ := drop_cons (l := l) (i := i) (by omega)
      have h1 := ih (by omega)
      rw [runR_succ hx]
      unfold stepR
      split
      · exact sins_sorted _ _ h1
      · split
        · rename_i hh; rw [hh] at h1; exact (List.pairwise_cons.1 h1).2
        · exact List.Pairwise.nil
  have := key l.length (Nat.le_refl _)
  rwa [List.take_length] at this
theorem runR_take_bounds (l : List TOp) {i : Nat} (h : i ≤ l.length) : (runR (l.take i)).here.length ≤ i ∧ (runR (l.take i)).gone.length ≤ i ∧ (runR (l.take i)).took.length = i ∧ 0 ≤ (runR (l.take i)).free ∧ (runR (l.take i)).free ≤ i := by
  have := runR_len (l.take i)
  rwa [List.length_take, Nat.min_eq_left h] at this
theorem run_loop (l : List TOp) (hl : l.length < 100000) : ∀ (d i n : Nat), i + d = l.length → d < n → R12_Run.l0 K1 l n ((runR (l.take i)).here, (runR (l.take i)).gone, (runR (l.take i)).took, (runR (l.take i)).free, (i : Int)) = some ((runR l).here, (runR l).gone, (runR l).took, (runR l).free)
  | d, i, 0, _, h => by omega
  | 0, i, n + 1, hi, _ => by
    simp only [R12_Run.l0]
    rw [dec_nlt (by omega), List.take_of_length_le (by omega)]; rfl
  | d + 1, i, n + 1, hi, hn => by
    obtain ⟨x, hx, _⟩ := drop_cons (l := l) (i := i) (by omega)
    obtain ⟨h1, h2, h3, h4, h5⟩ := runR_take_bounds l (i := i) (by omega)
    have hsr := runR_sorted (l.take i)
    have ih := run_loop l hl d (i + 1) n (by omega) (by omega)
    rw [runR_succ hx] at ih
    simp only [R12_Run.l0]
    rw [dec_lt (by omega)]
    generalize hs : runR (l.take i) = s at *
    simp only [cond_true, atL_nat hx, Option.bind_some, w64_succ (i := i) (by omega)]
    have hdT : ∀ z : TTook, decide (s.took.length + [z].length < 4294967296) = true := fun z => decide_eq_true (by rw [List.length_singleton]; omega)
    cases hx1 : x.insert with
    | true =>
      have e : stepR s x = ⟨sins x.item s.here, s.gone, s.free, s.took ++ [zTTook]⟩ := by unfold stepR; rw [if_pos hx1]
      rw [e] at ih
      obtain ⟨r, r1, r2, r3⟩ := sorted_f K1 (s.here ++ [x.item]) (by rw [List.length_append, List.length_singleton]; omega) (Nat.le_refl _)
      have hr : r = sins x.item s.here := sorted_perm_eq r2 (sins_sorted _ _ hsr) (r3.trans (List.perm_append_comm.trans (sins_perm _ _).symm))
      rw [hr] at r1
      simp only [cond_true, List.nil_append]
      rw [decide_eq_true (by rw [List.length_nil]; omega), cond_true, decide_eq_true (by rw [List.length_singleton]; omega), cond_true, r1]
      simp only [Option.bind_some, hdT, cond_true]
      exact ih
    | false =>
      simp only [cond_false]
      cases hh : s.here with
      | nil =>
        have e : stepR s x = ⟨[], s.gone, s.free + 1, s.took ++ [zTTook]⟩ := by unfold stepR; rw [hx1]; simp [hh]
        rw [e] at ih
        have e0 : decide ((([] : List TItem).length : Int) > 0) = false := rfl
        simp only [e0, cond_false, hdT, cond_true]
        rw [w64_id (by omega) (by omega)]
        exact ih
      | cons y t =>
        have e : stepR s x = ⟨t, s.gone ++ [y], s.free, s.took ++ [⟨true, y⟩]⟩ := by unfold stepR; rw [hx1]; simp [hh]
        rw [e] at ih
        rw [hh] at h1
        simp only [List.length_cons] at h1
        have e0 : decide (((y :: t).length : Int) > 0) = true := decide_eq_true (by rw [List.length_cons]; omega)
        have e1 : atL (y :: t) 0 = some y := atL_nat (i := 0) rfl
        have e2 : ((y :: t).drop (1 : Int).toNat).take ((y :: t).length - (1 : Int).toNat) = t := by
          show ((y :: t).drop 1).take ((y :: t).length - 1) = t
          simp
        simp only [e0, cond_true, e1, Option.bind_some, e2, List.nil_append, hdT]
        rw [decide_eq_true (by rw [List.length_singleton]; omega), cond_true, decide_eq_true (by rw [List.length_cons]; omega), cond_true, decide_eq_true (by rw [List.length_nil]; omega), cond_true]
        exact ih
theorem refRun (l : List TOp) (hl : l.length < 100000) : ∃ g, R12_Run.f K1 l = some ((runR l).here, g, (runR l).free, (runR l).took) ∧ Sorted g ∧ g.Perm (runR l).gone := by
  have e := run_loop l hl l.length 0 K1 (Nat.zero_add _) (by unfold K1; omega)
  replace e : R12_Run.l0 K1 l K1 ([], [], [], 0, 0) = some ((runR l).here, (runR l).gone, (runR l).took, (runR l).free) := e
  have hb := runR_len l
  obtain ⟨r, r1, r2, r3⟩ := sorted_f K1 (runR l).gone (by omega) (Nat.le_refl _)
  unfold R12_Run.f
  simp only [e, Option.bind_some, r1]
  exact ⟨r, rfl, r2, r3⟩
end Go.Proofs.YtpeoalmhccmdiaaGreat
namespace Go.Proofs.YtpeoalmhccmdiaaGreat
open Go Go.Proofs.YtpeoalmhccmdiaaGreat.Sx
theorem cap_bd (n : Int) : 0 ≤ gmin (gmax n 0) 65536 ∧ gmin (gmax n 0) 65536 ≤ 65536 := by
  unfold gmin gmax; split <;> split <;> omega
theorem oat_loop (t : Int) (l : List TOp) (hl : l.length < 1000000) : ∀ (d i n : Nat), i + d = l.length → d < n → (∀ y ∈ l.take i, y.time ≠ t) → ∃ v, R12_At.l0 K1 l t n (i : Int) = some v ∧ ((v = Sum.inr () ∧ ∀ y ∈ l, y.time ≠ t) ∨ ∃ (j : Nat) (y : TOp), v = Sum.inl (j : Int) ∧ l[j]? = some y ∧ y.time = t ∧ ∀ z ∈ l.take j, z.time ≠ t)
  | d, i, 0, _, h, _ => by omega
  | 0, i, n + 1, hi, _, h1 => by
    simp only [R12_At.l0]
    rw [dec_nlt (by omega)]
    rw [List.take_of_length_le (by omega)] at h1
    exact ⟨_, rfl, .inl ⟨rfl, h1⟩⟩
  | d + 1, i, n + 1, hi, hn, h1 => by
    obtain ⟨y, hy, _⟩ := drop_cons (l := l) (i := i) (by omega)
    simp only [R12_At.l0]
    rw [dec_lt (by omega)]
    simp only [cond_true, atL_nat hy, Option.bind_some]
    by_cases e : y.time = t
    · rw [e, beq_self_eq_true]
      exact ⟨_, rfl, .inr ⟨i, y, rfl, hy, e, h1⟩⟩
    · have e' : (y.time == t) = false := by simpa using e
      simp only [e', cond_false, w64_succ (i := i) (by omega)]
      refine oat_loop t l hl d (i + 1) n (by omega) (by omega) (fun z hz => ?_)
      rw [take_snoc hy] at hz
      rcases List.mem_append.1 hz with hz | hz
      · exact h1 z hz
      · rw [List.mem_singleton.1 hz]; exact e
theorem refOAt {t : Int} {m A M D : List TMark} (hc : CutM t m A M D) (hl : m.length < 100000) : R12_At.f K1 (m.map (·.op)) t = some (if M = [] then -1 else (A.length : Int)) := by
  obtain ⟨v, h1, h2⟩ := oat_loop t (m.map (·.op)) (by simp; omega) m.length 0 K1 (by simp) (by unfold K1; omega) (by simp)
  replace h1 : R12_At.l0 K1 (m.map (·.op)) t K1 0 = some v := h1
  unfold R12_At.f
  rw [h1]
  rcases h2 with ⟨rfl, h2⟩ | ⟨j, y, rfl, h2, h3, h4⟩
  · have : M = [] := hc.none (fun x hx => h2 x.op (List.mem_map_of_mem hx))
    rw [if_pos this]; rfl
  · rw [List.getElem?_map] at h2
    obtain ⟨x, hx, rfl⟩ := Option.map_eq_some_iff.1 h2
    have hM := hc.mem (List.mem_of_getElem? hx) h3
    have hj : j = A.length := by
      have e := hc.eq
      rw [hM] at e
      rcases Nat.lt_trichotomy j A.length with h | h | h
      · rw [e, List.getElem?_append_left h] at hx
        have := hc.la x (List.mem_of_getElem? hx); omega
      · exact h
      · exfalso
        have h5 : x.op ∈ (m.map (·.op)).take j := by
          rw [← List.map_take]
          refine List.mem_map_of_mem (List.mem_of_getElem? (i := A.length) ?_)
          rw [List.getElem?_take_of_lt h, e, List.singleton_append, get_mid]
        exact h4 _ h5 h3
    rw [hM, hj]; rfl
theorem has_loop (x : TItem) (l : List TOp) (hl : l.length < 1000000) : ∀ (d i n : Nat), i + d = l.length → d < n → (∀ y ∈ l.take i, y.insert = true → y.item ≠ x) → ∃ v, R12_Has.l0 K1 l x n (i : Int) = some v ∧ ((v = Sum.inr () ∧ ∀ y ∈ l, y.insert = true → y.item ≠ x) ∨ (v = Sum.inl true ∧ ∃ y ∈ l, y.insert = true ∧ y.item = x))
  | d, i, 0, _, h, _ => by omega
  | 0, i, n + 1, hi, _, h1 => by
    simp only [R12_Has.l0]
    rw [dec_nlt (by omega)]
    rw [List.take_of_length_le (by omega)] at h1
    exact ⟨_, rfl, .inl ⟨rfl, h1⟩⟩
  | d + 1, i, n + 1, hi, hn, h1 => by
    obtain ⟨y, hy, _⟩ := drop_cons (l := l) (i := i) (by omega)
    have next : (y.insert = true → y.item ≠ x) → ∃ v, R12_Has.l0 K1 l x n ((i + 1 : Nat) : Int) = some v ∧ ((v = Sum.inr () ∧ ∀ y ∈ l, y.insert = true → y.item ≠ x) ∨ (v = Sum.inl true ∧ ∃ y ∈ l, y.insert = true ∧ y.item = x)) := fun hy' => by
      refine has_loop x l hl d (i + 1) n (by omega) (by omega) (fun z hz => ?_)
      rw [take_snoc hy] at hz
      rcases List.mem_append.1 hz with hz | hz
      · exact h1 z hz
      · rw [List.mem_singleton.1 hz]; exact hy'
    simp only [R12_Has.l0]
    rw [dec_lt (by omega)]
    simp only [cond_true, atL_nat hy, Option.bind_some, itemB, w64_succ (i := i) (by omega)]
    cases hi1 : y.insert with
    | false => simp only [cond_false]; exact next (fun h => by rw [hi1] at h; cases h)
    | true =>
      simp only [cond_true]
      by_cases e : y.item = x
      · simp only [e, decide_true, cond_true]
        exact ⟨_, rfl, .inr ⟨rfl, y, List.mem_of_getElem? hy, hi1, e⟩⟩
      · simp only [e, decide_false, cond_false]; exact next (fun _ => e)
theorem refHas (x : TItem) (m : List TMark) (hl : m.length < 100000) : (R12_Has.f K1 (m.map (·.op)) x = some true ∧ ∃ y ∈ m, y.op.insert = true ∧ y.op.item = x) ∨ (R12_Has.f K1 (m.map (·.op)) x = some false ∧ ∀ y ∈ m, y.op.insert = true → y.op.item ≠ x) := by
  obtain ⟨v, h1, h2⟩ := has_loop x (m.map (·.op)) (by simp; omega) m.length 0 K1 (by simp) (by unfold K1; omega) (by simp)
  replace h1 : R12_Has.l0 K1 (m.map (·.op)) x K1 0 = some v := h1
  unfold R12_Has.f
  rw [h1]
  rcases h2 with ⟨rfl, h2⟩ | ⟨rfl, y, h2, h3, h4⟩
  · exact .inr ⟨rfl, fun y hy => h2 y.op (List.mem_map_of_mem hy)⟩
  · obtain ⟨z, hz, rfl⟩ := List.mem_map.1 h2
    exact .inl ⟨rfl, z, hz, h3, h4⟩
theorem add_loop (o : TOp) (A D : List TOp) (hA : ∀ x ∈ A, x.time < o.time) (hD : ∀ x ∈ D, o.time < x.time) (hl : (A ++ D).length < 1000000) : ∀ (d i n : Nat), i + d = A.length → d < n → R12_Add.l0 K1 (A ++ D) o n (i : Int) = some (A.length : Int)
  | d, i, 0, _, h => by omega
  | 0, i, n + 1, hi, _ => by
    have : i = A.length := by omega
    subst this
    simp only [R12_Add.l0]
    cases D with
    | nil => rw [List.append_nil, dec_nlt (Nat.le_refl _)]; rfl
    | cons y D =>
      have hy : (A ++ y :: D)[A.length]? = some y := by rw [List.getElem?_append_right (Nat.le_refl _), Nat.sub_self]; rfl
      have := hD y List.mem_cons_self
      rw [dec_lt (by simp)]
      simp only [cond_true, atL_nat hy, Option.bind_some]
      rw [decide_eq_false (by omega)]; rfl
  | d + 1, i, n + 1, hi, hn => by
    simp only [List.length_append] at hl
    obtain ⟨y, hy, _⟩ := drop_cons (l := A) (i := i) (by omega)
    have hy' : (A ++ D)[i]? = some y := by rw [List.getElem?_append_left (by omega)]; exact hy
    have := hA y (List.mem_of_getElem? hy)
    simp only [R12_Add.l0]
    rw [dec_lt (by simp; omega)]
    simp only [cond_true, atL_nat hy', Option.bind_some]
    rw [decide_eq_true this, cond_true, w64_succ (i := i) (by omega)]
    exact add_loop o A D hA hD (by simp; omega) d (i + 1) n (by omega) (by omega)
theorem refAdd (o : TOp) (A D : List TOp) (hA : ∀ x ∈ A, x.time < o.time) (hD : ∀ x ∈ D, o.time < x.time) (hl : (A ++ D).length < 100000) : R12_Add.f K1 (A ++ D) o = some (A ++ o :: D) := by
  have hl' := hl
  simp only [List.length_append] at hl'
  have e := add_loop o A D hA hD (by omega) A.length 0 K1 (Nat.zero_add _) (by unfold K1; omega)
  replace e : R12_Add.l0 K1 (A ++ D) o K1 0 = some (A.length : Int) := e
  have e1 : ((A ++ D).drop 0).take (((A.length : Int)).toNat - 0) = A := by simp
  have e2 : ((A ++ D).drop ((A.length : Int)).toNat).take ((A ++ D).length - ((A.length : Int)).toNat) = D := by
    rw [Int.toNat_natCast, List.drop_left' rfl, List.take_of_length_le (by simp)]
  unfold R12_Add.f
  simp only [e, Option.bind_some, e1, e2, List.nil_append]
  rw [nat_in (by simp), cond_true, decide_eq_true (by rw [List.length_nil]; omega), cond_true, decide_eq_true (by rw [List.length_singleton]; omega), cond_true, cond_true, decide_eq_true (by simp; omega), cond_true]
  simp
theorem refWithout (A D : List TOp) (y : TOp) (hl : (A ++ y :: D).length < 100000) : R12_Without.f K1 (A ++ y :: D) (A.length : Int) = some (A ++ D) := by
  have hl' := hl
  simp only [List.length_append, List.length_cons] at hl'
  have hw : w64 ((A.length : Int) + 1) = ((A.length + 1 : Nat) : Int) := w64_succ (by omega)
  have e1 : ((A ++ y :: D).drop 0).take (((A.length : Int)).toNat - 0) = A := by simp
  have e2 : ((A ++ y :: D).drop (((A.length + 1 : Nat) : Int)).toNat).take ((A ++ y :: D).length - (((A.length + 1 : Nat) : Int)).toNat) = D := by
    rw [Int.toNat_natCast, List.take_of_length_le (by simp; omega)]
    rw [show A ++ y :: D = (A ++ [y]) ++ D by simp, List.drop_left' (by simp)]
  unfold R12_Without.f
  simp only [hw, e1, e2, List.nil_append]
  rw [nat_in (by simp), cond_true, decide_eq_true (by rw [List.length_nil]; omega), cond_true, nat_in (by simp), cond_true, decide_eq_true (by omega), cond_true]
theorem refRest (a : Int) {n : Nat} (hn : 1 ≤ n) (hn2 : n < 1000000) : ∃ r : Nat, R01_Rest.f K1 a (n : Int) = some (r : Int) ∧ r < n := by
  have h0 : decide ((n : Int) ≠ 0) = true := decide_eq_true (by omega)
  have h6 : (a.tmod (n : Int)).natAbs < n := by rw [Int.natAbs_tmod]; exact Nat.mod_lt _ (by omega)
  have h3 : w64 (a.tmod (n : Int) + (n : Int)) = a.tmod (n : Int) + (n : Int) := w64_id (by omega) (by omega)
  unfold R01_Rest.f
  simp only [h0, cond_true, h3]
  have h4 := Int.tmod_nonneg (a := a.tmod (n : Int) + (n : Int)) (n : Int) (by omega)
  have h5 := Int.tmod_lt_of_pos (a.tmod (n : Int) + (n : Int)) (b := (n : Int)) (by omega)
  exact ⟨((a.tmod (n : Int) + (n : Int)).tmod (n : Int)).toNat, by congr 1; omega, by omega⟩
theorem actTime (a : TL12Act) (l : List TOp) (hl : l.length < 100000) : ∃ t, Lw12_Act_time.f K1 a l = some t := by
  unfold Lw12_Act_time.f
  cases a.told with
  | false => exact ⟨_, rfl⟩
  | true =>
    simp only [Bool.not_true, cond_false]
    by_cases h : l.length = 0
    · have : ((l.length : Int) == 0) = true := by simp [h]
      rw [this]; exact ⟨_, rfl⟩
    · have : ((l.length : Int) == 0) = false := by simpa using h
      rw [this]
      obtain ⟨r, r1, r2⟩ := refRest a.time (n := l.length) (by omega) (by omega)
      obtain ⟨x, hx, _⟩ := drop_cons (l := l) (i := r) r2
      simp only [cond_false, r1, Option.bind_some, atL_nat hx]
      exact ⟨_, rfl⟩
theorem hereI_nodup : ∀ {m : List TMark}, Dist m → (hereI m).Nodup
  | [], _ => List.nodup_nil
  | x :: m, h => by
    have hd : Dist m := dist_del (A := []) (x := x) h
    have e : hereI (x :: m) = hereI [x] ++ hereI m := hereI_app [x] m
    rw [e]
    have ih := hereI_nodup hd
    cases hi : x.op.insert with
    | false => rw [(one_D hi).1]; exact ih
    | true =>
      cases hh : x.here with
      | false => rw [(one_G ⟨hi, hh⟩).1]; exact ih
      | true =>
        rw [(one_S ⟨hi, hh⟩).1]
        refine List.nodup_cons.2 ⟨fun hx => ?_, ih⟩
        obtain ⟨i, y, h1, h2, h3⟩ := mem_hereI.1 hx
        have := h 0 (i + 1) x y rfl h1 hi h2.1 h3.symm
        omega
theorem chg_ok {m m' : List TMark} (hd : Dist m) (hd' : Dist m') {ch : TChange} (h : Chg ch m m') {a b : List TItem} (ha : Sorted a) (hb : Sorted b) (pa : a.Perm (hereI m)) (pb : b.Perm (hereI m')) :
    (⟨b.filter (fun x => decide (x ∉ a)), a.filter (fun x => decide (x ∉ b))⟩ : TChange) = ch := by
  have nil : ∀ {u v : List TItem}, (∀ x ∈ u, x ∈ v) → u.filter (fun x => decide (x ∉ v)) = [] := fun h => List.filter_eq_nil_iff.2 (fun x hx => by simpa using h x hx)
  have one : ∀ {u v : List TItem} {y : TItem}, u.Perm (y :: v) → y ∉ v → u.filter (fun x => decide (x ∉ v)) = [y] := fun {u v y} hp hy => by
    have h1 := hp.filter (fun x => decide (x ∉ v))
    have h2 : (y :: v).filter (fun x => decide (x ∉ v)) = [y] := by
      rw [List.filter_cons, nil (fun x hx => hx)]; simp [hy]
    rw [h2] at h1
    exact List.perm_singleton.1 h1
  have nod := hereI_nodup hd; have nod' := hereI_nodup hd'
  rcases h with ⟨rfl, h⟩ | ⟨y, rfl, h⟩ | ⟨y, rfl, h⟩
  · rw [nil (fun x hx => pa.mem_iff.2 (h.mem_iff.1 (pb.mem_iff.1 hx))), nil (fun x hx => pb.mem_iff.2 (h.mem_iff.2 (pa.mem_iff.1 hx)))]
  · have hy : y ∉ hereI m := (List.nodup_cons.1 (h.nodup_iff.1 nod')).1
    have hp : b.Perm (y :: a) := pb.trans (h.trans (pa.symm.cons y))
    rw [one hp (fun hy' => hy (pa.mem_iff.1 hy')), nil (fun x hx => hp.mem_iff.2 (List.mem_cons_of_mem _ hx))]
  · have hy : y ∉ hereI m' := (List.nodup_cons.1 (h.nodup_iff.1 nod)).1
    have hp : a.Perm (y :: b) := pa.trans (h.trans (pb.symm.cons y))
    rw [one hp (fun hy' => hy (pb.mem_iff.1 hy')), nil (fun x hx => hp.mem_iff.2 (List.mem_cons_of_mem _ hx))]
theorem Chg.refl (m : List TMark) : Chg ⟨[], []⟩ m m := .inl ⟨rfl, List.Perm.refl _⟩
theorem Chg.small {ch : TChange} {m m' : List TMark} (h : Chg ch m m') : ch.in_.length ≤ 1 ∧ ch.out.length ≤ 1 := by
  rcases h with ⟨rfl, _⟩ | ⟨y, rfl, _⟩ | ⟨y, rfl, _⟩ <;> simp
theorem tell_ok {q q' : TQueue} {m m' : List TMark} {E E' c : Int} {B B' : Nat} (h : QOk q m E c B) (h' : QOk q' m' E' c B') {ch : TChange} (hg : Chg ch m m') : ∃ o n, R12_Run.f K1 (m.map (·.op)) = some o ∧ R12_Run.f K1 (m'.map (·.op)) = some n ∧ R12_Change.f K1 o.1 n.1 = some ch ∧ R12_Same.f K1 ch ch = some true := by
  have hl := h.rep.lim; have hl' := h'.rep.lim
  obtain ⟨g, g1, _⟩ := refRun (m.map (·.op)) (by simp; omega)
  obtain ⟨g', g1', _⟩ := refRun (m'.map (·.op)) (by simp; omega)
  have r := run_cert h.rep.dist h.cert
  have r' := run_cert h'.rep.dist h'.cert
  have b := runR_len (m.map (·.op)); have b' := runR_len (m'.map (·.op))
  simp only [List.length_map] at b b'
  refine ⟨_, _, g1, g1', ?_, refCSame ch (by have := hg.small; omega) (by have := hg.small; omega)⟩
  rw [refChange _ _ (by show (runR _).here.length < _; omega) (by show (runR _).here.length < _; omega)]
  congr 1
  exact chg_ok h.rep.dist h'.rep.dist hg r.2.2.2 r'.2.2.2 r.1 r'.1
theorem QOk.up {q : TQueue} {m : List TMark} {E c : Int} {B B' : Nat} (h : QOk q m E c B) (hB : B ≤ B') (hb9 : B' < 900000) : QOk q m E c B' :=
  ⟨⟨h.rep.cap, h.rep.marks.mono hB (by omega), h.rep.pres.imp (fun T h => ⟨h.1.mono hB (by omega), h.2⟩), h.rep.gone.imp (fun T h => ⟨h.1.mono hB (by omega), h.2⟩), h.rep.times.imp (fun T h => ⟨h.1.mono hB (by omega), h.2⟩), h.rep.dist, h.rep.len, h.rep.lim, hb9, h.rep.plain⟩, h.cert, h.exc⟩
theorem do_ok {q : TQueue} {m : List TMark} {E c : Int} {B : Nat} (h : QOk q m E c B) (hl2 : m.length < 100) (hb9 : B + 2 < 900000) (a : TL12Act) :
    ∃ q' m' E', Lw12_do.f K1 q (m.map (·.op)) c a = some (m'.map (·.op), true, q') ∧ QOk q' m' E' c (B + 2) ∧ m'.length ≤ m.length + 1 := by
  obtain ⟨t, ht⟩ := actTime a (m.map (·.op)) (by simp; omega)
  obtain ⟨k, hk, hk3⟩ := refRest a.kind (n := 3) (by decide) (by decide)
  replace hk : R01_Rest.f K1 a.kind 3 = some (k : Int) := hk
  obtain ⟨A, M, D, hc⟩ := mcut h.rep.marks (by omega) t
  have hat := refOAt hc (by omega)
  have hno : ∀ ch : TChange, ∀ e : Int, ch = ⟨[], []⟩ → ∃ o, R12_Run.f K1 (m.map (·.op)) = some o ∧ R12_Change.f K1 o.1 o.1 = some ⟨[], []⟩ ∧ R12_Same.f K1 ⟨[], []⟩ ⟨[], []⟩ = some true := fun ch e _ => by
    obtain ⟨o, n, h1, h2, h3, h4⟩ := tell_ok h h (Chg.refl m)
    rw [h1] at h2; cases h2
    exact ⟨o, h1, h3, h4⟩
  obtain ⟨o, o1, o2, o3⟩ := hno ⟨[], []⟩ 0 rfl
  have hsame := h.up (B' := B + 2) (by omega) hb9
  unfold Lw12_do.f
  simp only [ht, Option.bind_some, hat, hk]
  have hlen : ((m.map (·.op)).length : Int) = (m.length : Int) := by simp
  -- revoking
  by_cases k2 : k = 2
  · subst k2
    have e0 : (((2 : Nat) : Int) == 2) = true := rfl
    rw [e0, cond_true]
    rcases hc.lm with hM | ⟨y, hM, hy⟩
    · subst hM
      have e1 : decide ((if ([] : List TMark) = [] then (-1 : Int) else (A.length : Int)) < 0) = true := rfl
      rw [revoke_no h.rep hc]
      simp only [Option.bind_some, e1, cond_true, o1, o2, o3]
      exact ⟨q, m, E, rfl, hsame, by omega⟩
    · subst hM
      have e1 : (if [y] = [] then (-1 : Int) else (A.length : Int)) = (A.length : Int) := if_neg (by simp)
      obtain ⟨ch, q', m', E', r1, r2, r3, r4⟩ := revoke_ok h hc hb9
      obtain ⟨o', n', p1, p2, p3, p4⟩ := tell_ok h r2 r4
      rw [o1] at p1; cases p1
      have em : m.map (·.op) = A.map (·.op) ++ y.op :: D.map (·.op) := by rw [hc.eq]; simp
      have ew := refWithout (A.map (·.op)) (D.map (·.op)) y.op (by rw [← em]; simp; omega)
      rw [← em, ← r3, List.length_map] at ew
      have hml : m'.length ≤ m.length := by
        have := congrArg List.length r3
        have := congrArg List.length em
        simp at *; omega
      rw [r1, e1]
      have e2 : decide ((A.length : Int) < 0) = false := by simp
      simp only [Option.bind_some, e2, cond_false, ew, o1, p2, p3, p4]
      exact ⟨q', m', E', rfl, r2, by omega⟩
  have e2 : ((k : Int) == 2) = false := by simpa using (fun e : (k : Int) = 2 => k2 (by omega))
  rw [e2, cond_false]
  -- the three refusals, and the way on
  by_cases k0 : k = 0
  · subst k0
    have e0 : (((0 : Nat) : Int) == 0) = true := rfl
    rw [e0, cond_true]
    obtain ⟨n1, n2, n3⟩ := insert_no h.rep hc a.x
    by_cases hfull : (m.length : Int) = c
    · rw [n1 hfull, hlen, hfull]
      simp only [Option.bind_some, beq_self_eq_true, cond_true, o1, o2, o3]
      exact ⟨q, m, E, rfl, hsame, by omega⟩
    · have e3 : (((m.map (·.op)).length : Int) == c) = false := by rw [hlen]; simpa using hfull
      rw [e3]
      rcases hc.lm with hM | ⟨y, hM, hy⟩
      · subst hM
        have e1 : decide ((if ([] : List TMark) = [] then (-1 : Int) else (A.length : Int)) ≥ 0) = false := rfl
        rcases refHas a.x m (by omega) with ⟨s1, s2⟩ | ⟨s1, s2⟩
        · rw [n3 hfull rfl s2]
          simp only [Option.bind_some, e1, cond_false, s1, cond_true, o1, o2, o3, beq_self_eq_true]
          exact ⟨q, m, E, rfl, hsame, by omega⟩
        · obtain ⟨ch, q', m', E', r1, r2, r3, r4⟩ := insert_ok h hc a.x hfull hl2 s2 hb9
          obtain ⟨o', n', p1, p2, p3, p4⟩ := tell_ok h r2 r4
          rw [o1] at p1; cases p1
          have em : m.map (·.op) = A.map (·.op) ++ D.map (·.op) := by rw [hc.eq]; simp
          have ea := refAdd ⟨t, true, a.x⟩ (A.map (·.op)) (D.map (·.op)) (fun x hx => by
            obtain ⟨z, hz, rfl⟩ := List.mem_map.1 hx; exact hc.la z hz) (fun x hx => by
            obtain ⟨z, hz, rfl⟩ := List.mem_map.1 hx; exact hc.lb z hz) (by rw [← em]; simp; omega)
          rw [← em, ← r3] at ea
          have hml : m'.length = m.length + 1 := by
            have h1 := congrArg List.length r3
            have h2 := congrArg List.length em
            simp at h1 h2; omega
          rw [r1]
          simp only [Option.bind_some, e1, cond_false, s1, ea, o1, p2, beq_self_eq_true, cond_true, p3, p4]
          exact ⟨q', m', E', rfl, r2, by omega⟩
      · subst hM
        have e1 : decide ((if [y] = [] then (-1 : Int) else (A.length : Int)) ≥ 0) = true := by rw [if_neg (by simp)]; simp
        rw [n2 hfull (by simp)]
        simp only [Option.bind_some, e1, cond_false, cond_true, o1, o2, o3, beq_self_eq_true]
        exact ⟨q, m, E, rfl, hsame, by omega⟩
  · have k1 : k = 1 := by omega
    subst k1
    have e0 : (((1 : Nat) : Int) == 0) = false := rfl
    have e01 : (((1 : Nat) : Int) == 1) = true := rfl
    rw [e0, cond_false, e01, cond_true]
    obtain ⟨n1, n2⟩ := delete_no h.rep hc
    by_cases hfull : (m.length : Int) = c
    · rw [n1 hfull, hlen, hfull]
      simp only [Option.bind_some, beq_self_eq_true, cond_true, o1, o2, o3]
      exact ⟨q, m, E, rfl, hsame, by omega⟩
    · have e3 : (((m.map (·.op)).length : Int) == c) = false := by rw [hlen]; simpa using hfull
      rw [e3]
      rcases hc.lm with hM | ⟨y, hM, hy⟩
      · subst hM
        have e1 : decide ((if ([] : List TMark) = [] then (-1 : Int) else (A.length : Int)) ≥ 0) = false := rfl
        obtain ⟨ch, q', m', E', r1, r2, r3, r4⟩ := delete_ok h hc hfull hl2 hb9
        obtain ⟨o', n', p1, p2, p3, p4⟩ := tell_ok h r2 r4
        rw [o1] at p1; cases p1
        have em : m.map (·.op) = A.map (·.op) ++ D.map (·.op) := by rw [hc.eq]; simp
        have ea := refAdd ⟨t, false, zTItem⟩ (A.map (·.op)) (D.map (·.op)) (fun x hx => by
          obtain ⟨z, hz, rfl⟩ := List.mem_map.1 hx; exact hc.la z hz) (fun x hx => by
          obtain ⟨z, hz, rfl⟩ := List.mem_map.1 hx; exact hc.lb z hz) (by rw [← em]; simp; omega)
        rw [← em, ← r3] at ea
        have hml : m'.length = m.length + 1 := by
          have h1 := congrArg List.length r3
          have h2 := congrArg List.length em
          simp at h1 h2; omega
        rw [r1]
        simp only [Option.bind_some, e1, cond_false, ea, o1, p2, beq_self_eq_true, cond_true, p3, p4]
        exact ⟨q', m', E', rfl, r2, by omega⟩
      · subst hM
        have e1 : decide ((if [y] = [] then (-1 : Int) else (A.length : Int)) ≥ 0) = true := by rw [if_neg (by simp)]; simp
        rw [n2 hfull (by simp)]
        simp only [Option.bind_some, e1, cond_false, cond_true, o1, o2, o3, beq_self_eq_true]
        exact ⟨q, m, E, rfl, hsame, by omega⟩
theorem items_ok {p : PN TSlot TSize} {r : TRef} {l g : List TItem} {c : Int} {B : Nat} (h : ∃ T, GrS p r T c B ∧ T.Perm (sls l)) (hl : l.length < 1000) (hs : Sorted g) (hg : g.Perm l) : shelf_Items.f K1 p r = some g := by
  obtain ⟨T, h1, h2⟩ := h
  have hlen : T.length = l.length := by rw [h2.length_eq, List.length_map]
  rw [sitems h1 (by omega)]
  congr 1
  have hp : (T.map (·.item)).Perm l := by
    have := h2.map (·.item)
    simpa [sls, slot, Function.comp_def] using this
  have hso : Sorted (T.map (·.item)) := (List.pairwise_map.2 (h1.sorted.imp (fun h => ilt_ile h)))
  exact sorted_perm_eq hso hs (hp.trans hg.symm)
theorem new_ok (n : Int) : ∃ q, partial_New.f K1 n = some q ∧ QOk q [] 0 (gmin (gmax n 0) 65536) 0 := by
  have hb := cap_bd n
  have hc : capOf (gmin (gmax n 0) 65536) = gmin (gmax n 0) 65536 := by
    generalize gmin (gmax n 0) 65536 = c at *
    unfold capOf; split <;> split <;> omega
  unfold partial_New.f wave_New.f shelf_New.f Tree_New.f
  simp only [Option.bind_some, hc]
  refine ⟨_, rfl, ⟨⟨rfl, Gr.new _ 0 (by decide), ⟨[], Gr.new _ 0 (by decide), List.Perm.refl _⟩, ⟨[], Gr.new _ 0 (by decide), List.Perm.refl _⟩, ⟨[], Gr.new _ 0 (by decide), List.Perm.refl _⟩, ?_, by simpa using hb.1, by decide, by decide, fun x hx => by cases hx⟩, ?_, rfl⟩⟩
  · intro i j x y h1; simp at h1
  · refine ⟨fun p hp => ?_, ?_, fun i j hi => ?_, fun h => ?_⟩
    · have : p = 0 := by simpa using hp
      subst this; simp [hgt]
    · simp [hgt]
    · simp at hi
    · simp [hgt] at h
theorem awake12 : Lw12_awake.f K1 = some true := by kernel_rfl
end Go.Proofs.YtpeoalmhccmdiaaGreat
namespace Go.Proofs.YtpeoalmhccmdiaaGreat
open Go Go.Proofs.YtpeoalmhccmdiaaGreat.Sx
theorem marks_loop0 (acts : List TL12Act) (hl : acts.length ≤ 60) : ∀ (d i n : Nat) {q : TQueue} {m : List TMark} {E : Int}, i + d = acts.length → d < n → QOk q m E 60 (2 * i) → m.length ≤ i → ∃ q' m' E', Lw12_PartialMarks.l0 K1 acts n (q, m.map (·.op), (i : Int)) = some (q', m'.map (·.op)) ∧ QOk q' m' E' 60 (2 * acts.length) ∧ m'.length ≤ acts.length
  | d, i, 0, _, _, _, _, h, _, _ => by omega
  | 0, i, n + 1, q, m, E, hi, _, h, hm => by
    simp only [Lw12_PartialMarks.l0]
    rw [dec_nlt (by omega)]
    exact ⟨q, m, E, rfl, by rw [show acts.length = i by omega]; exact h, by omega⟩
  | d + 1, i, n + 1, q, m, E, hi, hn, h, hm => by
    obtain ⟨a, ha, _⟩ := drop_cons (l := acts) (i := i) (by omega)
    obtain ⟨q', m', E', r1, r2, r3⟩ := do_ok h (by omega) (by omega) a
    simp only [Lw12_PartialMarks.l0]
    rw [dec_lt (by omega)]
    simp only [cond_true, atL_nat ha, Option.bind_some, r1, w64_succ (i := i) (by omega)]
    exact marks_loop0 acts hl d (i + 1) n (by omega) (by omega) r2 (by omega)
theorem one_loop0 : ∀ (acts : List TL12Act) (n : Nat) (s : TQueue × List TOp × Int), Lw12_PartialOne.l0 K1 acts n s = Lw12_PartialMarks.l0 K1 acts n s
  | _, 0, _ => rfl
  | acts, n + 1, (v1, v2, v3) => by
    simp only [Lw12_PartialOne.l0, Lw12_PartialMarks.l0, one_loop0 acts n]
theorem acts_done (acts : List TL12Act) (hl : acts.length ≤ 60) : ∃ q0 q m E, partial_New.f K1 60 = some q0 ∧ Lw12_PartialMarks.l0 K1 acts K1 (q0, [], 0) = some (q, m.map (·.op)) ∧ QOk q m E 60 (2 * acts.length) ∧ m.length ≤ acts.length := by
  obtain ⟨q0, q1, q2⟩ := new_ok 60
  obtain ⟨q', m', E', h1, h2, h3⟩ := marks_loop0 acts hl acts.length 0 K1 (Nat.zero_add _) (by unfold K1; omega) q2 (Nat.le_refl _)
  exact ⟨q0, q', m', E', q1, h1, h2, h3⟩
theorem same_here {q q' : TQueue} {m m' : List TMark} {E E' c : Int} {B B' : Nat} (h : QOk q m E c B) (h' : QOk q' m' E' c B') (ho : m'.map (·.op) = m.map (·.op)) : (hereI m').Perm (hereI m) := by
  have r := run_cert h.rep.dist h.cert
  have r' := run_cert h'.rep.dist h'.cert
  rw [ho] at r'
  exact r'.1.symm.trans r.1
theorem chg_back {q q' q'' : TQueue} {m m' m'' : List TMark} {E E' E'' c : Int} {B B' B'' : Nat} (h : QOk q m E c B) (h' : QOk q' m' E' c B') (h'' : QOk q'' m'' E'' c B'') (ho : m''.map (·.op) = m.map (·.op)) {c1 c2 : TChange} (g1 : Chg c1 m m') (g2 : Chg c2 m' m'') : c2 = ⟨c1.out, c1.in_⟩ := by
  have r := run_cert h.rep.dist h.cert
  have r' := run_cert h'.rep.dist h'.cert
  have e1 := chg_ok h.rep.dist h'.rep.dist g1 r.2.2.2 r'.2.2.2 r.1 r'.1
  have e2 := chg_ok h'.rep.dist h''.rep.dist g2 r'.2.2.2 r.2.2.2 r'.1 (r.1.trans (same_here h h'' ho).symm)
  rw [← e1, ← e2]
theorem pres_items {q : TQueue} {m : List TMark} {E c : Int} {B : Nat} (h : QOk q m E c B) : shelf_Items.f K1 q.present.p q.present.r = some (runR (m.map (·.op))).here ∧ (runR (m.map (·.op))).here.length < 1000000 := by
  have hl := h.rep.lim
  have ls := len_split m
  have r := run_cert h.rep.dist h.cert
  have b := runR_len (m.map (·.op))
  simp only [List.length_map] at b
  exact ⟨items_ok h.rep.pres (by omega) r.2.2.2 r.1, by omega⟩
theorem back_ok {q q' : TQueue} {m m' : List TMark} {E E' c t : Int} {B : Nat} {A D : List TMark} {o : TOp} (h : QOk q m E c B) (hc : CutM t m A [] D) (h' : QOk q' m' E' c (B + 2)) (hot : o.time = t) (ho : m'.map (·.op) = A.map (·.op) ++ (o :: D.map (·.op))) {ch : TChange} (hg : Chg ch m m') (hb9 : B + 4 < 900000) :
    ∃ q'' m'' E'', partial_Queue_Revoke.f K1 q' t = some (⟨ch.out, ch.in_⟩, 0, q'') ∧ QOk q'' m'' E'' c (B + 4) ∧ m''.map (·.op) = m.map (·.op) := by
  have hlim := h'.rep.lim
  obtain ⟨A', R, e1, e2, e3⟩ := List.map_eq_append_iff.1 ho
  obtain ⟨y, D', e4, e5, e6⟩ := List.map_eq_cons_iff.1 e3
  have hcut : CutM t m' A' [y] D' := by
    refine ⟨by rw [e1, e4]; rfl, fun x hx => ?_, fun x hx => ?_, .inr ⟨y, rfl, by rw [e5]; exact hot⟩⟩
    · have : x.op ∈ A.map (·.op) := by rw [← e2]; exact List.mem_map_of_mem hx
      obtain ⟨z, hz, e⟩ := List.mem_map.1 this
      rw [← e]; exact hc.la z hz
    · have : x.op ∈ D.map (·.op) := by rw [← e6]; exact List.mem_map_of_mem hx
      obtain ⟨z, hz, e⟩ := List.mem_map.1 this
      rw [← e]; exact hc.lb z hz
  obtain ⟨c2, q'', m'', E'', r1, r2, r3, r4⟩ := revoke_ok h' hcut (by omega)
  have ho2 : m''.map (·.op) = m.map (·.op) := by rw [r3, e2, e6, hc.eq]; simp
  have := chg_back h h' r2 ho2 hg r4
  subst this
  exact ⟨q'', m'', E'', r1, r2, ho2⟩
theorem PartialOne_pure (acts : List TL12Act) (a : TL12Act) : Lw12_PartialOne.f K1 acts a = some true := by
  unfold Lw12_PartialOne.f
  simp only [awake12, Option.bind_some, Bool.not_true, cond_false]
  by_cases h : (acts.length : Int) > 50
  · rw [decide_eq_true h]; rfl
  · obtain ⟨q0, q, m, E, h1, h2, h3, h4⟩ := acts_done acts (by omega)
    rw [← one_loop0] at h2
    have hlim := h3.rep.lim
    obtain ⟨i1, i2⟩ := pres_items h3
    rw [decide_eq_false h]
    simp only [cond_false, Option.bind_some, Sum.elim_inr, h1, h2, partial_Queue_Present.f, i1]
    obtain ⟨A, M, D, hc⟩ := mcut h3.rep.marks (by omega) a.time
    have z1 : ((10 : Int) != 0) = true := rfl
    have z2 : ((11 : Int) != 0) = true := rfl
    have z3 : ((2 : Int) != 0) = true := rfl
    have z4 : ((0 : Int) != 0) = false := rfl
    have z5 : (w64 (((([] : List TItem).length : Nat) : Int) + ((([] : List TItem).length : Nat) : Int)) == 0) = true := rfl
    -- behind an operation that was added
    have fin : ∀ {ch : TChange} {q' : TQueue} {m' : List TMark} {E' : Int} {o : TOp}, CutM a.time m A [] D → QOk q' m' E' 60 (2 * acts.length + 2) → o.time = a.time → m'.map (·.op) = A.map (·.op) ++ (o :: D.map (·.op)) → Chg ch m m' →
        (partial_Queue_Revoke.f K1 q' a.time).bind (fun x17 => bif (decide ((w64 ((ch.in_.length : Int) + (ch.out.length : Int))) > 1)) then (some false) else (bif (x17.2.1 != 0) then (some false) else ((R02_Same.f K1 ch.in_ x17.1.out).bind fun x18 => bif (!x18) then (some false) else ((R02_Same.f K1 ch.out x17.1.in_).bind fun x19 => bif (!x19) then (some false) else ((shelf_Items.f K1 x17.2.2.present.p x17.2.2.present.r).bind fun x21 => (R02_Same.f K1 x21 (runR (m.map (·.op))).here).bind fun x22 => bif x22 then ((partial_Queue_Ops.f K1 x17.2.2).bind fun x23 => (R12_Ops.f K1 x23 (m.map (·.op))).bind fun x24 => some x24) else (some false)))))) = some true := by
      intro ch q' m' E' o hc' h' hot ho hg
      obtain ⟨q'', m'', E'', r1, r2, r3⟩ := back_ok h3 hc' h' hot ho hg (by omega)
      obtain ⟨j1, j2⟩ := pres_items r2
      rw [r3] at j1
      have hs : decide ((w64 ((ch.in_.length : Int) + (ch.out.length : Int))) > 1) = false := by
        rcases hg with ⟨rfl, _⟩ | ⟨y, rfl, _⟩ | ⟨y, rfl, _⟩ <;> rfl
      have hsm := hg.small
      have hl'' := r2.rep.lim
      simp only [r1, Option.bind_some, hs, cond_false, z4, refSame ch.in_ (by omega), refSame ch.out (by omega), Bool.not_true, j1, refSame _ i2, cond_true, qops r2.rep.marks (by omega), r3, refOps (m.map (·.op)) (by simp; omega)]
    cases hk : ((a.kind.tmod 2) == 0) with
    | true =>
      simp only [cond_true]
      obtain ⟨n1, n2, n3⟩ := insert_no h3.rep hc a.x
      by_cases hfull : (m.length : Int) = 60
      · rw [n1 hfull]
        simp only [Option.bind_some, z1, cond_true, z5, i1, refSame _ i2]
      · rcases hc.lm with hM | ⟨y, hM, hy⟩
        · subst hM
          by_cases hx : ∃ y ∈ m, y.op.insert = true ∧ y.op.item = a.x
          · rw [n3 hfull rfl hx]
            simp only [Option.bind_some, z3, cond_true, z5, i1, refSame _ i2]
          · obtain ⟨ch, q', m', E', r1, r2, r3, r4⟩ := insert_ok h3 hc a.x hfull (by omega) (fun y hy h1 h2 => hx ⟨y, hy, h1, h2⟩) (by omega)
            rw [r1]
            simp only [Option.bind_some, z4, cond_false]
            exact fin hc r2 rfl r3 r4
        · subst hM
          rw [n2 hfull (by simp)]
          simp only [Option.bind_some, z2, cond_true, z5, i1, refSame _ i2]
    | false =>
      simp only [cond_false]
      obtain ⟨n1, n2⟩ := delete_no h3.rep hc
      by_cases hfull : (m.length : Int) = 60
      · rw [n1 hfull]
        simp only [Option.bind_some, z1, cond_true, z5, i1, refSame _ i2]
      · rcases hc.lm with hM | ⟨y, hM, hy⟩
        · subst hM
          obtain ⟨ch, q', m', E', r1, r2, r3, r4⟩ := delete_ok h3 hc hfull (by omega) (by omega)
          rw [r1]
          simp only [Option.bind_some, z4, cond_false]
          exact fin hc r2 rfl r3 r4
        · subst hM
          rw [n2 hfull (by simp)]
          simp only [Option.bind_some, z2, cond_true, z5, i1, refSame _ i2]
end Go.Proofs.YtpeoalmhccmdiaaGreat
