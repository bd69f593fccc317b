/- Any texts are sorted as the document says: rising, each once, in whatever order they come: the pure law of TextSorts. No condition beside the arguments' kinds and the lengths that the reading gives. -/
import Derived.Test.YtkejnnnedgmhiaaDoorXs15
import Derived.Test.YtkejnnnedgmhiaaDoorTSort
import Derived.Test.YtkejnnnedgmhiaaDoorTKnown
namespace Go.Proofs.YtkejnnnedgmhiaaDoor.Pure
set_option linter.unusedVariables false
set_option linter.unusedSimpArgs false
open Go.RowKit Go.Proofs.YtkejnnnedgmhiaaDoorW.PrintWords Go.Proofs.YtkejnnnedgmhiaaDoor.X Go.Proofs.YtkejnnnedgmhiaaDoor.M
theorem rise_of {r : List ByteArray} {p q : ByteArray → Prop} (h : Rise r p) (e : ∀ x, p x ↔ q x) : Rise r q := ⟨h.1, fun x => (h.2 x).trans (e x)⟩
theorem sorts_loop (l r : List ByteArray) (hl : l.length ≤ 20) (hr : Rise r (fun x => x ∈ l)) (hrl : r.length ≤ 1000) (d : Nat) : ∀ i : Nat, 1 ≤ i → i + d = r.length + 1 →
    Ev (fun k => transhumancelaw1_TextSorts.l1 k l r r (i : Int)) true := by
  induction d with
  | zero =>
    intro i h1 hi
    refine evShift ?_
    simp only [transhumancelaw1_TextSorts.l1, List.nil_append]
    obtain ⟨r2, hE2, hR2⟩ := ref_sorted_ok l (by omega)
    obtain ⟨r3, hE3, hR3, _⟩ := text_sorted_ok (l ++ l) (by rw [List.length_append]; omega)
    have e2 : r2 = r := rise_one hR2 hr
    have e3 : r3 = r := rise_one (rise_of hR3 (fun x => by simp)) hr
    subst e2
    subst e3
    refine evN (by omega) (Ev.bind hE2 (Ev.bind (texts_same _ (by omega)) (evP rfl (Ev.bind (texts_same _ (by omega)) (evP rfl (evBind rfl (evP (by simp only [List.length_nil]; omega) (evBind rfl (evP (by simp only [List.length_append, List.length_nil]; omega) (evBind hE3 (Ev.bind (texts_same _ (by omega)) (Ev.now _))))))))))))
  | succ d ih =>
    intro i h1 hi
    by_cases hlt : i < r.length
    · have hw : wrap64 ((i : Int) + 1) = ((i + 1 : Nat) : Int) := by rw [wrap64_id (by omega) (by omega)]; omega
      have hw0 : wrap64 ((i : Int) - 1) = ((i - 1 : Nat) : Int) := by rw [wrap64_id (by omega) (by omega)]; omega
      have hp := (List.pairwise_iff_getElem.mp hr.1) (i - 1) i (by omega) hlt (by omega)
      refine evShift ?_
      simp only [transhumancelaw1_TextSorts.l1, hw, hw0, rd_at r i hlt, rd_at r (i - 1) (by omega), L_toList]
      exact evP (by omega) (evP (by omega) (evP (by omega) (evP (by omega) (evP hp (ih (i + 1) (by omega) (by omega))))))
    · have e : d = 0 := by omega
      subst e
      have e : (i : Int) = ((i : Nat) : Int) := rfl
      refine evShift ?_
      simp only [transhumancelaw1_TextSorts.l1, List.nil_append]
      obtain ⟨r2, hE2, hR2⟩ := ref_sorted_ok l (by omega)
      obtain ⟨r3, hE3, hR3, _⟩ := text_sorted_ok (l ++ l) (by rw [List.length_append]; omega)
      have e2 : r2 = r := rise_one hR2 hr
      have e3 : r3 = r := rise_one (rise_of hR3 (fun x => by simp)) hr
      subst e2
      subst e3
      refine evN (by omega) (Ev.bind hE2 (Ev.bind (texts_same _ (by omega)) (evP rfl (Ev.bind (texts_same _ (by omega)) (evP rfl (evBind rfl (evP (by simp only [List.length_nil]; omega) (evBind rfl (evP (by simp only [List.length_append, List.length_nil]; omega) (evBind hE3 (Ev.bind (texts_same _ (by omega)) (Ev.now _))))))))))))
theorem sorts_end (x1 : List Int) (a2 : Int) (s : ByteArray) (l : List ByteArray) (hl : l.length ≤ 20) (x9 : Int) : Ev (fun k => transhumancelaw1_TextSorts.j1 k x1 a2 s l x9 false) true := by
  obtain ⟨r, hE, hR, hrl⟩ := text_sorted_ok l (by omega)
  obtain ⟨y, hy, y0, y1⟩ := twithin_ok a2 ((l.length : Int) + 1) (by omega) (by omega)
  obtain ⟨r2, hE2, hR2, _⟩ := text_sorted_ok (([] ++ l.drop y.toNat) ++ l.take y.toNat) (by simp only [List.length_append, List.length_nil, List.length_drop, List.length_take]; omega)
  have e2 : r2 = r := rise_one (rise_of hR2 (fun x => by
    rw [List.nil_append, List.mem_append]
    have : x ∈ l ↔ (x ∈ l.take y.toNat ∨ x ∈ l.drop y.toNat) := by rw [← List.mem_append, List.take_append_drop]
    rw [this]
    exact Or.comm)) hR
  subst e2
  refine evShift ?_
  simp only [transhumancelaw1_TextSorts.j1]
  rw [wrap64_id (show -9223372036854775808 ≤ ((l.length : Int) + 1) by omega) (by omega)]
  refine evN (by decide) (evBind hE (evBind hy (evBind rfl (evP y0 (evP (by omega) (evBind rfl (evP (by simp only [List.length_nil, List.length_drop]; omega) (evBind rfl (evBind rfl (evP (by simp only [List.length_append, List.length_nil, List.length_drop, List.length_take]; omega) (evBind hE2 ?_)))))))))))
  exact sorts_loop l r2 hl hR hrl r2.length 1 (by omega) (by omega)
theorem sorts_start (x1 : List Int) (hx : x1.length ≤ 4611686018427387904) (a2 : Int) (s : ByteArray) (hs : s.size ≤ 1000) (d : Nat) : ∀ (i : Nat) (l : List ByteArray), i + d = 20 → l.length = i → Ev (fun k => transhumancelaw1_TextSorts.l0 k x1 a2 s l (i : Int)) true := by
  induction d with
  | zero =>
    intro i l hi hl
    refine evShift ?_
    simp only [transhumancelaw1_TextSorts.l0]
    have e : decide ((i : Int) < 20) = false := decide_eq_false (by omega)
    rw [e]
    exact evIf (fun _ => sorts_end x1 a2 s l (by omega) _) (fun _ => sorts_end x1 a2 s l (by omega) _)
  | succ d ih =>
    intro i l hi hl
    refine evShift ?_
    simp only [transhumancelaw1_TextSorts.l0]
    have e : decide ((i : Int) < 20) = true := decide_eq_true (by omega)
    rw [e]
    refine evIf (fun h => evShift ?_) (fun _ => sorts_end x1 a2 s l (by omega) _)
    have hw : wrap64 ((i : Int) + 1) = ((i + 1 : Nat) : Int) := by rw [wrap64_id (by omega) (by omega)]; omega
    obtain ⟨y, hy, y0, y1⟩ := twithin_ok (rd x1 (i : Int)) ((s.size : Int) + 1) (by omega) (by omega)
    obtain ⟨z, hz, z0, z1⟩ := twithin_ok (wrap64 (Int.tdiv (rd x1 (i : Int)) 7)) 4 (by omega) (by omega)
    simp only [transhumancelaw1_TextSorts.j1]
    rw [wrap64_id (show -9223372036854775808 ≤ ((s.size : Int) + 1) by omega) (by omega), hw]
    have hm : mn (s.size : Int) (wrap64 (y + z)) = if y + z < (s.size : Int) then y + z else (s.size : Int) := by
      rw [wrap64_id (show -9223372036854775808 ≤ y + z by omega) (by omega)]; rfl
    have hm1 : y ≤ mn (s.size : Int) (wrap64 (y + z)) := by rw [hm]; split <;> omega
    have hm2 : mn (s.size : Int) (wrap64 (y + z)) ≤ (s.size : Int) := by rw [hm]; split <;> omega
    refine evP (by trivial) (evP (by omega) (evP (by omega) (evBind hy (evBind hz (evP y0 (evP hm1 (evP hm2 (evP (by omega) ?_))))))))
    exact ih (i + 1) _ (by omega) (by rw [List.length_append, List.length_singleton]; omega)
theorem TextSorts : transhumancelaw1_TextSorts.Pure := by
  intro l0 l1 a2 hmax hsz hwf hmax1 hsz1 hwf1 hw2
  have h : Ev (fun k => transhumancelaw1_TextSorts.f k l0 l1 a2) true := by
    unfold transhumancelaw1_TextSorts.f
    refine Ev.bind known_ev (evP rfl (evIf (fun _ => Ev.now _) (fun hl => ?_)))
    obtain ⟨s, hE, z1, z2, _⟩ := plain_ev l0 100 (by omega) (by omega)
    refine Ev.bind hE ?_
    exact sorts_start l1 (by omega) a2 s (by omega) 20 0 [] (by omega) rfl
  exact h.rounds
end Go.Proofs.YtkejnnnedgmhiaaDoor.Pure
