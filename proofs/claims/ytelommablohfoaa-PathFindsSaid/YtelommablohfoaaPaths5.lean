/- Find, the program's and the document's, in plain Lean: the best of those that fit; who it is. Conditions: sizes as stated. -/
import Derived.Test.YtelommablohfoaaPaths4
import Derived.Test.YtelommablohfoaaXx4
import Derived.Test.YtelommablohfoaaXx13
namespace Go.Proofs.Ytelommablohfoaa.M
set_option linter.unusedVariables false
set_option linter.unusedSimpArgs false
open Go.RowKit Go.Proofs.Ytelommablohfoaa.X Go.Proofs.YtelommablohfoaaW.PrintWords Go.Proofs.YtelommablohfoaaW.PrintLast

def cand (r : List UInt8) (v : Int) (p : List UInt8) : Bool := fits (major p).2 v && within r (major p).1
def better (p q : List UInt8) : Bool := decide ((major p).1.length > (major q).1.length) || (decide ((major p).1.length = (major q).1.length) && Op.bytesLess p q)
def upd (r : List UInt8) (v : Int) (b : Option (List UInt8)) (p : List UInt8) : Option (List UInt8) :=
  if cand r v p = true then (match b with | none => some p | some q => if better p q = true then some p else some q) else b
def btr : Option (List UInt8) → List UInt8 → Bool | none, _ => true | some q, p => better p q
def findL (r : List UInt8) (v : Int) (l : List (List UInt8)) (b : Option (List UInt8)) : Option (List UInt8) := l.foldl (upd r v) b
theorem findL_cons (r : List UInt8) (v : Int) (p : List UInt8) (l : List (List UInt8)) (b : Option (List UInt8)) : findL r v (p :: l) b = findL r v l (upd r v b p) := rfl
def Fine (p : List UInt8) : Prop := p.head? ≠ some 47 ∧ p.length ≤ 1000

theorem better_irrefl (p : List UInt8) : ¬ better p p = true := by
  unfold better
  have h := bl_irrefl p
  simp [h]
theorem better_trans {a b c : List UInt8} (h1 : better a b = true) (h2 : better b c = true) : better a c = true := by
  unfold better at *
  simp only [Bool.or_eq_true, decide_eq_true_eq, Bool.and_eq_true] at *
  rcases h1 with h1 | ⟨h1, h3⟩
  · rcases h2 with h2 | ⟨h2, h4⟩
    · left; omega
    · left; omega
  · rcases h2 with h2 | ⟨h2, h4⟩
    · left; omega
    · right; exact ⟨by omega, bl_trans h3 h4⟩
theorem better_total (a b : List UInt8) : a = b ∨ better a b = true ∨ better b a = true := by
  unfold better
  simp only [Bool.or_eq_true, decide_eq_true_eq, Bool.and_eq_true]
  rcases Nat.lt_trichotomy (major a).1.length (major b).1.length with h | h | h
  · exact .inr (.inr (.inl h))
  · rcases bl_total a b with h2 | h2 | h2
    · exact .inl h2
    · exact .inr (.inl (.inr ⟨h, h2⟩))
    · exact .inr (.inr (.inr ⟨h.symm, h2⟩))
  · exact .inr (.inl (.inl h))

/-- What is found: none, or the best. -/
def Best (P : List UInt8 → Prop) (o : Option (List UInt8)) : Prop := (o = none ∧ ∀ p, ¬ P p) ∨ ∃ q, o = some q ∧ P q ∧ ∀ p, P p → p = q ∨ better q p = true
theorem Best.unique {P Q : List UInt8 → Prop} {o o' : Option (List UInt8)} (h : Best P o) (h' : Best Q o') (e : ∀ p, P p ↔ Q p) : o = o' := by
  rcases h with ⟨rfl, h⟩ | ⟨q, rfl, h1, h2⟩
  · rcases h' with ⟨rfl, _⟩ | ⟨q', rfl, h3, _⟩
    · rfl
    · exact absurd ((e q').mpr h3) (h q')
  · rcases h' with ⟨rfl, h'⟩ | ⟨q', rfl, h3, h4⟩
    · exact absurd ((e q).mp h1) (h' q)
    · rcases h2 q' ((e q').mpr h3) with h5 | h5
      · rw [h5]
      · rcases h4 q ((e q).mp h1) with h6 | h6
        · rw [h6]
        · exact absurd (better_trans h5 h6) (better_irrefl q)
theorem findL_best (r : List UInt8) (v : Int) (l : List (List UInt8)) : ∀ (P : List UInt8 → Prop) (b : Option (List UInt8)), Best P b → Best (fun p => P p ∨ (p ∈ l ∧ cand r v p = true)) (findL r v l b) := by
  induction l with
  | nil =>
    intro P b h
    have e : ∀ p, (P p ∨ (p ∈ ([] : List (List UInt8)) ∧ cand r v p = true)) ↔ P p := by intro p; simp
    rcases h with ⟨rfl, h⟩ | ⟨q, rfl, h1, h2⟩
    · exact .inl ⟨rfl, fun p hp => h p ((e p).mp hp)⟩
    · exact .inr ⟨q, rfl, (e q).mpr h1, fun p hp => h2 p ((e p).mp hp)⟩
  | cons x l ih =>
    intro P b h
    rw [findL_cons]
    have key : Best (fun p => P p ∨ (p = x ∧ cand r v p = true)) (upd r v b x) := by
      unfold upd
      by_cases hc : cand r v x = true
      · rw [if_pos hc]
        rcases h with ⟨rfl, h⟩ | ⟨q, rfl, h1, h2⟩
        · refine .inr ⟨x, rfl, .inr ⟨rfl, hc⟩, ?_⟩
          rintro p (hp | ⟨rfl, _⟩)
          · exact absurd hp (h p)
          · exact .inl rfl
        · simp only
          by_cases hb : better x q = true
          · rw [if_pos hb]
            refine .inr ⟨x, rfl, .inr ⟨rfl, hc⟩, ?_⟩
            rintro p (hp | ⟨rfl, _⟩)
            · rcases h2 p hp with rfl | h3
              · exact .inr hb
              · exact .inr (better_trans hb h3)
            · exact .inl rfl
          · rw [if_neg hb]
            refine .inr ⟨q, rfl, .inl h1, ?_⟩
            rintro p (hp | ⟨rfl, _⟩)
            · exact h2 p hp
            · rcases better_total p q with h3 | h3 | h3
              · exact .inl h3
              · exact absurd h3 hb
              · exact .inr h3
      · rw [if_neg hc]
        have e : ∀ p, (P p ∨ (p = x ∧ cand r v p = true)) ↔ P p := by
          intro p
          exact ⟨fun hp => by
            rcases hp with hp | ⟨rfl, hp⟩
            · exact hp
            · exact absurd hp hc, .inl⟩
        rcases h with ⟨rfl, h⟩ | ⟨q, rfl, h1, h2⟩
        · exact .inl ⟨rfl, fun p hp => h p ((e p).mp hp)⟩
        · exact .inr ⟨q, rfl, (e q).mpr h1, fun p hp => h2 p ((e p).mp hp)⟩
    have h3 := ih _ _ key
    have e : ∀ p, ((P p ∨ (p = x ∧ cand r v p = true)) ∨ (p ∈ l ∧ cand r v p = true)) ↔ (P p ∨ (p ∈ x :: l ∧ cand r v p = true)) := by
      intro p
      rw [List.mem_cons]
      constructor
      · rintro ((h | ⟨h, h2⟩) | ⟨h, h2⟩)
        · exact .inl h
        · exact .inr ⟨.inl h, h2⟩
        · exact .inr ⟨.inr h, h2⟩
      · rintro (h | ⟨h | h, h2⟩)
        · exact .inl (.inl h)
        · exact .inl (.inr ⟨h, h2⟩)
        · exact .inr ⟨h, h2⟩
    rcases h3 with ⟨h3, h4⟩ | ⟨q, h3, h4, h5⟩
    · exact .inl ⟨h3, fun p hp => h4 p ((e p).mpr hp)⟩
    · exact .inr ⟨q, h3, (e q).mp h4, fun p hp => h5 p ((e p).mpr hp)⟩
theorem find_best (r : List UInt8) (v : Int) (l : List (List UInt8)) : Best (fun p => p ∈ l ∧ cand r v p = true) (findL r v l none) := by
  have h := findL_best r v l (fun _ => False) none (.inl ⟨rfl, fun _ h => h⟩)
  have e : ∀ p, (False ∨ (p ∈ l ∧ cand r v p = true)) ↔ (p ∈ l ∧ cand r v p = true) := fun p => ⟨fun h => h.resolve_left id, .inr⟩
  rcases h with ⟨h3, h4⟩ | ⟨q, h3, h4, h5⟩
  · exact .inl ⟨h3, fun p hp => h4 p ((e p).mpr hp)⟩
  · exact .inr ⟨q, h3, (e q).mp h4, fun p hp => h5 p ((e p).mpr hp)⟩

/-! ### the program's Find -/
def oW : Option (List UInt8) → ByteArray | none => (⟨#[]⟩ : ByteArray) | some p => B p
def oR : Option (List UInt8) → ByteArray | none => (⟨#[]⟩ : ByteArray) | some p => B (major p).1
def oM : Option (List UInt8) → Int | none => 0 | some p => (major p).2
def oT : Option (List UInt8) → Bool | none => false | some _ => true
theorem upd_fine {r : List UInt8} {v : Int} {b : Option (List UInt8)} {p : List UInt8} (hb : ∀ q, b = some q → Fine q) (hp : Fine p) : ∀ q, upd r v b p = some q → Fine q := by
  intro q h
  unfold upd at h
  split at h
  · split at h
    · simp at h; subst h; exact hp
    · split at h
      · simp at h; subst h; exact hp
      · simp at h; subst h; exact hb _ rfl
  · exact hb q h
theorem find_loop (r : List UInt8) (v x y : Int) (z : ByteArray) (ps : List (List UInt8)) (hps : ∀ p ∈ ps, Fine p) (hn : ps.length ≤ 1000000) (d : Nat) : ∀ (i : Nat) (b : Option (List UInt8)), i + d = ps.length → (∀ q, b = some q → Fine q) →
    Ev (fun k => path_Find.l0 k (B r) (ps.map B) ps.length i v x y z (oW b) (oR b) (oM b) (oT b)) (oW (findL r v (ps.drop i) b), oT (findL r v (ps.drop i) b)) := by
  induction d with
  | zero =>
    intro i b hi hb
    rw [List.drop_of_length_le (by omega)]
    refine evShift ?_
    simp only [path_Find.l0]
    refine evN (by omega) (evBind (clone_ok _ ?_) (evNow rfl))
    cases b with
    | none => show (0 : Nat) ≤ _; omega
    | some q => have := (hb q rfl).2; show (B q).size ≤ _; rw [L_size, L_B]; omega
  | succ d ih =>
    intro i b hi hb
    have hl : i < ps.length := by omega
    have hp : Fine (ps.getD i []) := by
      refine hps _ ?_
      rw [List.getD_eq_getElem?_getD, List.getElem?_eq_getElem hl]
      exact List.getElem_mem hl
    have hw : wrap64 ((i : Int) + 1) = ((i + 1 : Nat) : Int) := by rw [wrap64_id (by omega) (by omega)]; omega
    rw [drop_getD [] hl, findL_cons]
    generalize hpg : ps.getD i [] = p at *
    have hz : (B p).size = p.length := by rw [L_size, L_B]
    have hnext := fun b' hb' => ih (i + 1) b' (by omega) hb'
    have hj2 : ∀ x67 : Bool, (cand r v p = true) → (x67 = btr b p) →
        Ev (fun k => path_Find.j2 k (B r) (ps.map B) ps.length i x67 v x y z (oW b) (oR b) (oM b) (oT b) (B p) (B (major p).1) (major p).2 true) (oW (findL r v (ps.drop (i + 1)) (upd r v b p)), oT (findL r v (ps.drop (i + 1)) (upd r v b p))) := by
      intro x67 hc hx
      refine evShift ?_
      simp only [path_Find.j2, hw]
      cases b with
      | none =>
        subst hx
        have e : upd r v none p = some p := by unfold upd; rw [if_pos hc]
        rw [e]
        exact evP rfl (hnext (some p) (fun q hq => by cases hq; exact hp))
      | some q =>
        have hx : x67 = better p q := hx
        have e : upd r v (some q) p = if better p q = true then some p else some q := by unfold upd; rw [if_pos hc]
        rw [e, ← hx]
        cases x67 with
        | true => exact evP rfl (hnext (some p) (fun q hq => by cases hq; exact hp))
        | false => exact evN (by decide) (hnext (some q) hb)
    have hj1 : ∀ x33 : Bool, x33 = !(cand r v p) →
        Ev (fun k => path_Find.j1 k (B r) (ps.map B) ps.length i x33 v x y z (oW b) (oR b) (oM b) (oT b) (B p) (B (major p).1) (major p).2 true) (oW (findL r v (ps.drop (i + 1)) (upd r v b p)), oT (findL r v (ps.drop (i + 1)) (upd r v b p))) := by
      intro x33 hx
      refine evShift ?_
      simp only [path_Find.j1, hw]
      cases hc : cand r v p with
      | false =>
        rw [hc] at hx
        subst hx
        have e : upd r v b p = b := by unfold upd; rw [if_neg (by rw [hc]; decide)]
        rw [e]
        exact evP rfl (hnext b hb)
      | true =>
        rw [hc] at hx
        subst hx
        refine evN (by decide) ?_
        cases b with
        | none => exact evN (by decide) (hj2 _ hc rfl)
        | some q =>
          refine evP rfl ?_
          have e1 : (B (major p).1).size = (major p).1.length := by rw [L_size, L_B]
          have e2 : (oR (some q)).size = (major q).1.length := by show (B (major q).1).size = _; rw [L_size, L_B]
          rw [e1, e2]
          refine evIf (fun h => hj2 _ hc ?_) (fun h => evIf (fun h2 => hj2 _ hc ?_) (fun h2 => hj2 _ hc ?_))
          · show _ = better p q
            unfold better
            rw [show decide ((major p).1.length > (major q).1.length) = true by simp; omega, Bool.true_or]
          · show _ = better p q
            unfold better
            rw [show decide ((major p).1.length > (major q).1.length) = false by simp; omega, show decide ((major p).1.length = (major q).1.length) = true by simp; omega, Bool.false_or, Bool.true_and]
            show Op.bytesLess (B p).toList (B q).toList = _
            rw [L_toList, L_toList, L_B, L_B]
          · show _ = better p q
            unfold better
            rw [show decide ((major p).1.length > (major q).1.length) = false by simp; omega, show decide ((major p).1.length = (major q).1.length) = false by simp; omega, Bool.false_or, Bool.false_and]
    have hfine := hp.2
    refine evShift ?_
    simp only [path_Find.l0, List.length_map, rdOf_map ps i hl, hpg]
    refine evP (by omega) (evP (by omega) (evP (by omega) (Ev.bind (part_ev (B p) (by omega) (by rw [L_B]; exact hp.1)) ?_)))
    simp only [L_B]
    refine evBind (fits_of _ _ _ _ _ _ _) ?_
    cases hf : fits (major p).2 v with
    | true =>
      refine evP rfl (evBind (within_ok _ _) (hj1 _ ?_))
      unfold cand
      rw [hf, L_B, L_B, Bool.true_and]
    | false =>
      refine evN (by decide) (hj1 _ ?_)
      unfold cand
      rw [hf]
      rfl
theorem find_ev (r : List UInt8) (v x y : Int) (z : ByteArray) (ps : List (List UInt8)) (hps : ∀ p ∈ ps, Fine p) (hn : ps.length ≤ 1000000) :
    Ev (fun k => path_Find.f k (ps.map B) (B r) v x y z) (oW (findL r v ps none), oT (findL r v ps none)) := by
  have := find_loop r v x y z ps hps hn ps.length 0 none (by omega) (fun q h => by cases h)
  unfold path_Find.f
  rw [List.length_map]
  exact this

/-! ### the document's Find -/
def oL : Option (List UInt8) → Int | none => -1 | some p => ((major p).1.length : Int)
theorem ref_find_loop (r : List UInt8) (v x y : Int) (z : ByteArray) (ps : List (List UInt8)) (hps : ∀ p ∈ ps, Fine p) (hn : ps.length ≤ 1000000) (d : Nat) : ∀ (i : Nat) (b : Option (List UInt8)), i + d = ps.length → (∀ q, b = some q → Fine q) →
    Ev (fun k => transhumanceref4_Find.l0 k (ps.map B) (B r) (oW b) (oL b) i v x y z) (oW (findL r v (ps.drop i) b), oT (findL r v (ps.drop i) b)) := by
  induction d with
  | zero =>
    intro i b hi hb
    rw [List.drop_of_length_le (by omega)]
    refine evShift ?_
    simp only [transhumanceref4_Find.l0, List.length_map]
    refine evN (by omega) (evNow ?_)
    cases b with
    | none => rfl
    | some q =>
      show (oW (some q), decide (oL (some q) ≥ 0)) = (oW (some q), true)
      have : decide (oL (some q) ≥ 0) = true := by show decide (((major q).1.length : Int) ≥ 0) = true; simp
      rw [this]
  | succ d ih =>
    intro i b hi hb
    have hl : i < ps.length := by omega
    have hp : Fine (ps.getD i []) := by
      refine hps _ ?_
      rw [List.getD_eq_getElem?_getD, List.getElem?_eq_getElem hl]
      exact List.getElem_mem hl
    have hw : wrap64 ((i : Int) + 1) = ((i + 1 : Nat) : Int) := by rw [wrap64_id (by omega) (by omega)]; omega
    rw [drop_getD [] hl, findL_cons]
    generalize hpg : ps.getD i [] = p at *
    have hz : (B p).size = p.length := by rw [L_size, L_B]
    have hnext := fun b' hb' => ih (i + 1) b' (by omega) hb'
    have hmz : (B (major p).1).size = (major p).1.length := by rw [L_size, L_B]
    have hj2 : ∀ x67 : Bool, (cand r v p = true) → (x67 = btr b p) →
        Ev (fun k => transhumanceref4_Find.j2 k (ps.map B) (B r) (oW b) (oL b) i (B (major p).1) x67 v x y z) (oW (findL r v (ps.drop (i + 1)) (upd r v b p)), oT (findL r v (ps.drop (i + 1)) (upd r v b p))) := by
      intro x67 hc hx
      refine evShift ?_
      simp only [transhumanceref4_Find.j2, hw, List.length_map, rdOf_map ps i hl, hpg, hmz]
      cases b with
      | none =>
        subst hx
        have e : upd r v none p = some p := by unfold upd; rw [if_pos hc]
        rw [e]
        exact evP rfl (evP (by omega) (evP (by omega) (hnext (some p) (fun q hq => by cases hq; exact hp))))
      | some q =>
        have hx : x67 = better p q := hx
        have e : upd r v (some q) p = if better p q = true then some p else some q := by unfold upd; rw [if_pos hc]
        rw [e, ← hx]
        cases x67 with
        | true => exact evP rfl (evP (by omega) (evP (by omega) (hnext (some p) (fun q hq => by cases hq; exact hp))))
        | false => exact evN (by decide) (hnext (some q) hb)
    have hj1 : ∀ x33 : Bool, x33 = !(cand r v p) →
        Ev (fun k => transhumanceref4_Find.j1 k (ps.map B) (B r) (oW b) (oL b) i (B (major p).1) x33 v x y z) (oW (findL r v (ps.drop (i + 1)) (upd r v b p)), oT (findL r v (ps.drop (i + 1)) (upd r v b p))) := by
      intro x33 hx
      refine evShift ?_
      simp only [transhumanceref4_Find.j1, hw, List.length_map, rdOf_map ps i hl, hpg, hmz]
      cases hc : cand r v p with
      | false =>
        rw [hc] at hx
        subst hx
        have e : upd r v b p = b := by unfold upd; rw [if_neg (by rw [hc]; decide)]
        rw [e]
        exact evP rfl (hnext b hb)
      | true =>
        rw [hc] at hx
        subst hx
        refine evN (by decide) ?_
        cases b with
        | none => exact evP (by show ((major p).1.length : Int) > -1; omega) (hj2 _ hc rfl)
        | some q =>
          have e2 : oL (some q) = ((major q).1.length : Int) := rfl
          refine evIf (fun h => hj2 _ hc ?_) (fun h => evIf (fun h2 => evP (by omega) (evP (by omega) (hj2 _ hc ?_))) (fun h2 => hj2 _ hc ?_))
          · show _ = better p q
            unfold better
            rw [show decide ((major p).1.length > (major q).1.length) = true by simp; omega, Bool.true_or]
          · show _ = better p q
            unfold better
            rw [show decide ((major p).1.length > (major q).1.length) = false by simp; omega, show decide ((major p).1.length = (major q).1.length) = true by simp; omega, Bool.false_or, Bool.true_and]
            show Op.bytesLess (B p).toList (B q).toList = _
            rw [L_toList, L_toList, L_B, L_B]
          · show _ = better p q
            unfold better
            rw [show decide ((major p).1.length > (major q).1.length) = false by simp; omega, show decide ((major p).1.length = (major q).1.length) = false by simp; omega, Bool.false_or, Bool.false_and]
    refine evShift ?_
    simp only [transhumanceref4_Find.l0, List.length_map, rdOf_map ps i hl, hpg]
    have hfine := hp.2
    have hml := major_len p
    refine evP (by omega) (evP (by omega) (Ev.bind (ref_major_ev (B p) (by omega)) ?_))
    simp only [L_B]
    refine evBind (ref_within_ok _ _ (by omega)) ?_
    cases hf : within (L (B r)) (L (B (major p).1)) with
    | true =>
      refine evP rfl (Ev.bind (ref_fits_ev (B p) (by omega) _ _ _ _) (hj1 _ ?_))
      rw [L_B, L_B] at hf
      unfold cand
      rw [hf, L_B, Bool.and_true]
    | false =>
      refine evN (by decide) (hj1 _ ?_)
      rw [L_B, L_B] at hf
      unfold cand
      rw [hf, Bool.and_false]
      rfl
theorem ref_find_ev (r : List UInt8) (v x y : Int) (z : ByteArray) (ps : List (List UInt8)) (hps : ∀ p ∈ ps, Fine p) (hn : ps.length ≤ 1000000) :
    Ev (fun k => transhumanceref4_Find.f k (ps.map B) (B r) v x y z) (oW (findL r v ps none), oT (findL r v ps none)) := by
  have := ref_find_loop r v x y z ps hps hn ps.length 0 none (by omega) (fun q h => by cases h)
  unfold transhumanceref4_Find.f
  exact this
end Go.Proofs.Ytelommablohfoaa.M
