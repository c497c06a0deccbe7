/- Trees in a pool: places, all elements, dropping out of a grove. -/
import Derived.Test.YtjokolmijhhinaaTk
import Derived.Test.YtjokolmijhhinaaTj
namespace Go.Proofs.Ytjokolmijhhinaa
open Go Go.Proofs.Ytjokolmijhhinaa.Sx
set_option linter.unusedVariables false
set_option linter.unusedSimpArgs false

section
variable {E A : Type} {O : Ops E A} {k N : Nat} {G : E → Prop} {S : A → List E → Prop} {lt : E → E → Prop}
theorem all_ok (ok : OpsOk O k N G S lt) {p : PN E A} {L : List TRef} {B : Nat} (hP : PW p L B) : ∀ (n : Nat) {r : TRef} {t : Tr E} (out : List E), t.size < n → Rep S p r t → out.length + t.size < 4294967296 → Tree_all.r O k n p r out = some (out ++ t.toList)
  | 0, _, _, _, h, _, _ => by omega
  | n + 1, r, .nil, out, hn, hr, hb => by
    have e0 : (r.gen == 0) = true := by simpa using hr.nil_iff.2 rfl
    simp only [Tree_all.r, e0, cond_true, Tr.toList, List.append_nil]
  | n + 1, r, .node r0 e0 l u, out, hn, hr, hb => by
    obtain ⟨n1, g1, g2⟩ := get_ok ok hP hr
    obtain ⟨rfl, he, hl, hu, hlk⟩ := g2.node rfl
    have hg := hP.ne0 hlk
    have hsz : (Tr.node r e0 l u).size = l.size + 1 + u.size := rfl
    have hll := Tr.len_toList l
    simp only [Tree_all.r, hg, cond_false, g1, Option.bind_some]
    rw [all_ok ok hP n out (by omega) hl (by omega)]
    simp only [Option.bind_some]
    rw [decide_eq_true (by simp; omega)]
    simp only [cond_true]
    rw [all_ok ok hP n _ (by omega) hu (by simp; omega)]
    simp [Tr.toList, he]

theorem Gr.drop (ok : OpsOk O k N G S lt) (hk : N ≤ k) {p : PN E A} {r : TRef} {l : List E} {c : Int} {B : Nat} (h : Gr S lt G p r l c B) (e : E) (hN : l.length < N) :
    ∃ a m b, Cut lt e l a m b ∧ ((m = [] ∧ Tree_Drop.f O k p r e = some (O.zE, false, r, p)) ∨
      (∃ y r' p', m = [y] ∧ Tree_Drop.f O k p r e = some (y, true, r', p') ∧ Gr S lt G p' r' (a ++ b) c B)) := by
  obtain ⟨t, hP, hr, rfl⟩ := h.ex
  have hll := Tr.len_toList t
  obtain ⟨a, m, b, hcut, hres⟩ := drop_ok ok hk hP e k (by omega) hr hP.ld h.sorted h.good (by omega)
  refine ⟨a, m, b, hcut, ?_⟩
  unfold Tree_Drop.f Tree_drop.f
  rcases hres with ⟨h1, h3⟩ | ⟨y, r', p', t', x0, h1, h3, h4, h5⟩
  · exact .inl ⟨h1, by rw [h3]; rfl⟩
  · refine .inr ⟨y, r', p', h1, by rw [h3]; rfl, ⟨t', h5.pw.perm ?_, h5.rep, h4⟩, hcut.drop h.sorted, fun x hx => h.good x ?_, h5.cap.trans h.cap⟩
    · have := h5.refs.erase x0
      rw [List.erase_cons_head] at this
      exact this.symm
    · rw [hcut.eq]; rcases List.mem_append.1 hx with hx | hx <;> simp [hx]
theorem Gr.all (ok : OpsOk O k N G S lt) (hk : N ≤ k) {p : PN E A} {r : TRef} {l : List E} {c : Int} {B : Nat} (h : Gr S lt G p r l c B) (hN : l.length < N) : Tree_All.f O k p r = some l := by
  obtain ⟨t, hP, hr, rfl⟩ := h.ex
  have hbig := ok.big
  have hll := Tr.len_toList t
  unfold Tree_All.f Tree_all.f
  rw [all_ok ok hP k [] (by omega) hr (by simp; omega)]; rfl
end
end Go.Proofs.Ytjokolmijhhinaa
