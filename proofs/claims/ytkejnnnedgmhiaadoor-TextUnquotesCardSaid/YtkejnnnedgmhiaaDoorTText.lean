/- What the shared functions of the text statements compute, in plain Lean: Plain's text, Place. Conditions: sizes as stated. -/
import Derived.Test.YtkejnnnedgmhiaaDoorXx6
import Derived.Test.YtkejnnnedgmhiaaDoorTKnown
namespace Go.Proofs.YtkejnnnedgmhiaaDoor.M
open Go.RowKit Go.Proofs.YtkejnnnedgmhiaaDoorW.PrintWords Go.Proofs.YtkejnnnedgmhiaaDoor.X

theorem tmod_bounds (x n : Int) (h0 : 0 < n) : -n < Int.tmod x n ∧ Int.tmod x n < n := ⟨Int.lt_tmod_of_pos x h0, Int.tmod_lt_of_pos x h0⟩
theorem twithin_ok (x n : Int) (h0 : 0 < n) (h1 : n ≤ 4611686018427387904) : ∃ y, transhumancelaw1_within.f x n = some y ∧ 0 ≤ y ∧ y < n := by
  have hb := tmod_bounds x n h0
  unfold transhumancelaw1_within.f
  rw [if_neg (by omega)]
  by_cases h : Int.tmod x n < 0
  · rw [if_pos h, wrap64_id (by omega) (by omega)]
    exact ⟨_, rfl, by omega, by omega⟩
  · rw [if_neg h]
    exact ⟨_, rfl, by omega, by omega⟩
/-- A byte that may be in a text. -/
def okI (x : Int) : Prop := x = 9 ∨ x = 10 ∨ (32 ≤ x ∧ x ≤ 126)
instance (x : Int) : Decidable (okI x) := inferInstanceAs (Decidable (_ ∨ _ ∨ (_ ∧ _)))
def Okay (s : ByteArray) : Prop := ∀ c ∈ L s, okI (c.toNat : Int)
theorem signs_ok : ∀ n : Fin 38, okI (bt (⟨#[10, 9, 32, 34, 92, 35, 47, 97, 98, 99, 110, 116, 58, 61, 45, 91, 93, 123, 125, 44, 46, 48, 49, 50, 51, 118, 120, 126, 94, 42, 124, 60, 62, 33, 95, 122, 121, 113]⟩ : ByteArray) (n.val : Int)) := by decide
theorem okay_of (xs : List Int) (h : ∀ j : Nat, j < xs.length → okI (xs.getD j 0)) : Okay (strOfNums xs) := by
  intro c hc
  unfold L at hc
  rw [strOfNums_data, List.mem_map] at hc
  obtain ⟨x, hx, rfl⟩ := hc
  obtain ⟨j, hj, rfl⟩ := List.getElem_of_mem hx
  have h1 := h j hj
  rw [List.getD_eq_getElem?_getD, List.getElem?_eq_getElem hj, Option.getD_some] at h1
  have e : ((UInt8.ofNat (xs[j]).toNat).toNat : Int) = xs[j] := by
    rw [UInt8.toNat_ofNat']
    unfold okI at h1
    omega
  rw [e]
  exact h1
theorem plain_loop (d : Nat) : ∀ (xs : List Int) (i : Nat), i + d = xs.length → xs.length ≤ 4611686018427387904 → (∀ j : Nat, j < i → okI (xs.getD j 0)) → ∃ s, Ev (fun k => transhumancelaw1_Plain.l0 k xs i) s ∧ s.size = xs.length ∧ Okay s := by
  induction d with
  | zero =>
    intro xs i hi hl hg
    refine ⟨strOfNums xs, ?_, strOfNums_size _, okay_of xs (fun j hj => hg j (by omega))⟩
    refine evShift ?_
    simp only [transhumancelaw1_Plain.l0]
    exact evN (by omega) (Ev.now _)
  | succ d ih =>
    intro xs i hi hl hg
    have hs : transhumancelaw1_signs.f = some (⟨#[10, 9, 32, 34, 92, 35, 47, 97, 98, 99, 110, 116, 58, 61, 45, 91, 93, 123, 125, 44, 46, 48, 49, 50, 51, 118, 120, 126, 94, 42, 124, 60, 62, 33, 95, 122, 121, 113]⟩ : ByteArray) := rfl
    obtain ⟨y, hy, y0, y1⟩ := twithin_ok (wrap64 (rd xs i)) 38 (by omega) (by omega)
    have hok : okI (bt (⟨#[10, 9, 32, 34, 92, 35, 47, 97, 98, 99, 110, 116, 58, 61, 45, 91, 93, 123, 125, 44, 46, 48, 49, 50, 51, 118, 120, 126, 94, 42, 124, 60, 62, 33, 95, 122, 121, 113]⟩ : ByteArray) y) := by
      have h := signs_ok ⟨y.toNat, by omega⟩
      have e : ((y.toNat : Nat) : Int) = y := by omega
      simp only [e] at h
      exact h
    obtain ⟨s, hE, hz, hO⟩ := ih (xs.set i (bt (⟨#[10, 9, 32, 34, 92, 35, 47, 97, 98, 99, 110, 116, 58, 61, 45, 91, 93, 123, 125, 44, 46, 48, 49, 50, 51, 118, 120, 126, 94, 42, 124, 60, 62, 33, 95, 122, 121, 113]⟩ : ByteArray) y)) (i + 1) (by rw [List.length_set]; omega) (by rw [List.length_set]; omega) (by
      intro j hj
      rw [List.getD_eq_getElem?_getD, List.getElem?_set]
      by_cases h : i = j
      · rw [if_pos h, if_pos (by omega), Option.getD_some]; exact hok
      · rw [if_neg h, ← List.getD_eq_getElem?_getD]; exact hg j (by omega))
    refine ⟨s, ?_, by rw [hz, List.length_set], hO⟩
    refine evShift ?_
    simp only [transhumancelaw1_Plain.l0]
    refine evP (by omega) (evBind hs (evP (by omega) (evBind hs (evBind hy (evP y0 (evP y1 ?_))))))
    have hw : wrap64 ((i : Int) + 1) = ((i + 1 : Nat) : Int) := by rw [wrap64_id (by omega) (by omega)]; omega
    rw [hw]
    exact hE
theorem plain_ev (l0 : List Int) (n : Int) (hn : 0 ≤ n) (hl : l0.length ≤ 140737488351232) : ∃ s, Ev (fun k => transhumancelaw1_Plain.f k l0 n) s ∧ s.size ≤ l0.length ∧ (s.size : Int) ≤ n ∧ Okay s := by
  have hm0 : mn (l0.length : Int) n = if n < (l0.length : Int) then n else (l0.length : Int) := rfl
  have h0 : 0 ≤ mn (l0.length : Int) n := by rw [hm0]; split <;> omega
  have h1 : mn (l0.length : Int) n ≤ (l0.length : Int) := by rw [hm0]; split <;> omega
  have h2 : mn (l0.length : Int) n ≤ n := by rw [hm0]; split <;> omega
  have hlen : (l0.take (mn (l0.length : Int) n).toNat).length = (mn (l0.length : Int) n).toNat := by rw [List.length_take]; omega
  obtain ⟨s, hE, hz, hO⟩ := plain_loop _ (([] : List Int) ++ l0.take (mn (l0.length : Int) n).toNat) 0 (by rw [Nat.zero_add]) (by rw [List.nil_append, hlen]; omega) (fun j hj => absurd hj (by omega))
  refine ⟨s, ?_, by rw [hz, List.nil_append, hlen]; omega, by rw [hz, List.nil_append, hlen]; omega, hO⟩
  unfold transhumancelaw1_Plain.f
  refine evBind rfl (evP h0 (evP h1 (evP ?_ hE)))
  rw [hlen]
  simp only [List.length_nil]
  omega
/-- The last 10 among the first n bytes. -/
def lst (s : ByteArray) : Nat → Int
  | 0 => -1
  | n + 1 => if bt s n = 10 then n else lst s n
def cn (s : ByteArray) : Nat → Int
  | 0 => 0
  | n + 1 => cn s n + (if bt s n = 10 then 1 else 0)
theorem lst_range (s : ByteArray) : ∀ n : Nat, -1 ≤ lst s n ∧ lst s n < n
  | 0 => ⟨Int.le_refl _, by simp [lst]⟩
  | n + 1 => by
    have h := lst_range s n
    unfold lst
    split <;> omega
theorem cn_range (s : ByteArray) : ∀ n : Nat, 0 ≤ cn s n ∧ cn s n ≤ n
  | 0 => ⟨Int.le_refl _, by simp [cn]⟩
  | n + 1 => by
    have h := cn_range s n
    unfold cn
    split <;> omega
theorem lst_congr {s t : ByteArray} : ∀ n : Nat, (∀ j : Nat, j < n → bt s j = bt t j) → lst s n = lst t n
  | 0, _ => rfl
  | n + 1, h => by
    unfold lst
    rw [h n (by omega), lst_congr n (fun j hj => h j (by omega))]
theorem bt_take (s : ByteArray) (n j : Nat) (h : j < n) : bt (s.extract 0 n) j = bt s j := by
  rw [bt_nat, bt_nat, L_take, List.getD_eq_getElem?_getD, List.getD_eq_getElem?_getD, List.getElem?_take, if_pos h]
theorem last_loop (s : ByteArray) (hs : s.size ≤ 4611686018427387904) : ∀ n : Nat, n ≤ s.size → Ev (fun k => bytealg_LastIndexByteString.l0 k s 10 ((n : Int) - 1)) (lst s n)
  | 0, _ => by
    refine evShift ?_
    simp only [bytealg_LastIndexByteString.l0]
    exact evN (by omega) (Ev.now _)
  | n + 1, hn => by
    refine evShift ?_
    have e : ((n + 1 : Nat) : Int) - 1 = (n : Int) := by omega
    rw [e]
    simp only [bytealg_LastIndexByteString.l0]
    refine evP (by omega) (evP (by omega) (evP (by omega) (evIf (fun h => ?_) (fun h => ?_))))
    · unfold lst
      rw [if_pos h]
      exact Ev.now _
    · unfold lst
      rw [if_neg h, wrap64_id (by omega) (by omega)]
      exact last_loop s hs n (by omega)
theorem last_ev (s : ByteArray) (hs : s.size ≤ 4611686018427387904) : Ev (fun k => strings_LastIndexByte.f k s 10) (lst s s.size) := by
  unfold strings_LastIndexByte.f bytealg_LastIndexByteString.f
  rw [wrap64_id (by omega) (by omega)]
  exact Ev.bind (last_loop s hs s.size (Nat.le_refl _)) (Ev.now _)
theorem cn_count (s : ByteArray) : ∀ n : Nat, n ≤ s.size → (Lib.countByte ((L s).take n) 10 : Int) = cn s n
  | 0, _ => rfl
  | n + 1, h => by
    have hl : n < (L s).length := by rw [← L_size]; omega
    have e : (L s).take (n + 1) = (L s).take n ++ [(L s).getD n 0] := by
      rw [List.take_add_one, List.getD_eq_getElem?_getD, List.getElem?_eq_getElem hl]; rfl
    have ih := cn_count s n (by omega)
    unfold Lib.countByte at ih ⊢
    unfold cn
    rw [e, List.count_append, List.count_singleton, bt_nat, ← ih]
    by_cases hb : (L s).getD n 0 = 10
    · rw [hb]; simp
    · have h3 : ¬ (((L s).getD n 0).toNat : Int) = 10 := fun h2 => hb (u8_int.mp (h2.trans rfl))
      rw [if_neg (by simpa using hb), if_neg h3]; omega
def clip (s : ByteArray) (a : Int) : Nat := min s.size a.toNat
theorem clip_eq (s : ByteArray) (a : Int) : mx 0 (mn a (s.size : Int)) = (clip s a : Int) := by
  have e1 : mn a (s.size : Int) = if (s.size : Int) < a then (s.size : Int) else a := rfl
  have e2 : ∀ x : Int, mx 0 x = if 0 < x then x else 0 := fun _ => rfl
  unfold clip
  rw [e2, e1]
  split <;> split at * <;> omega
theorem place_any (s : ByteArray) (hs : s.size ≤ 4611686018427387) (a : Int) : Ev (fun k => text_Place.f k s a) (1 + cn s (clip s a), (clip s a : Int) - lst s (clip s a)) := by
  have hm := clip_eq s a
  have hi : clip s a ≤ s.size := Nat.min_le_left _ _
  generalize clip s a = i at *
  have hz : (s.extract 0 i).size = i := by rw [L_size, L_take, List.length_take, ← L_size]; omega
  have hc : strings_Count.f (s.extract 0 i) (⟨#[10]⟩ : ByteArray) = some (cn s i) := by
    unfold strings_Count.f
    rw [if_pos (show (⟨#[10]⟩ : ByteArray).size = 1 from rfl), ← cn_count s i hi, ← L_take]
    rfl
  have hl := last_ev (s.extract 0 i) (by omega)
  rw [hz, lst_congr i (fun j hj => bt_take s i j hj)] at hl
  have h1 := lst_range s i
  have h2 := cn_range s i
  unfold text_Place.f
  rw [hm]
  simp only [Int.toNat_natCast]
  refine evP (by omega) (evP (by omega) (evBind hc (Ev.bind hl (evNow ?_))))
  rw [hz, wrap64_id (by omega) (by omega), wrap64_id (by omega) (by omega)]
theorem place_ev (s : ByteArray) (hs : s.size ≤ 4611686018427387) (i : Nat) (hi : i ≤ s.size) : Ev (fun k => text_Place.f k s i) (1 + cn s i, (i : Int) - lst s i) := by
  have h := place_any s hs (i : Int)
  rw [show clip s (i : Int) = i by unfold clip; omega] at h
  exact h
theorem refplace_loop (s : ByteArray) (hs : s.size ≤ 4611686018427387) (a : Int) (d : Nat) : ∀ i : Nat, i + d = clip s a → Ev (fun k => transhumanceref1_Place.l0 k s a i (1 + cn s i) ((i : Int) - lst s i)) (1 + cn s (clip s a), (clip s a : Int) - lst s (clip s a)) := by
  have hc : clip s a = min s.size a.toNat := rfl
  induction d with
  | zero =>
    intro i hi
    refine evShift ?_
    simp only [transhumanceref1_Place.l0]
    have e : i = clip s a := by omega
    refine evIf (fun h => evShift ?_) (fun h => evShift ?_)
    · simp only [transhumanceref1_Place.j1]
      rw [← e]
      exact evN (by rw [decide_eq_true_iff]; omega) (Ev.now _)
    · simp only [transhumanceref1_Place.j1]
      rw [← e]
      exact evN (by decide) (Ev.now _)
  | succ d ih =>
    intro i hi
    have h1 := lst_range s i
    have h2 := cn_range s i
    have hI := ih (i + 1) (by omega)
    have hw : wrap64 ((i : Int) + 1) = ((i + 1 : Nat) : Int) := by rw [wrap64_id (by omega) (by omega)]; omega
    refine evShift ?_
    simp only [transhumanceref1_Place.l0]
    refine evP (by omega) (evShift ?_)
    simp only [transhumanceref1_Place.j1]
    refine evP (by rw [decide_eq_true_iff]; omega) (evP (by omega) (evP (by omega) (evIf (fun h4 => ?_) (fun h4 => ?_))))
    · rw [hw, wrap64_id (by omega) (by omega)]
      have e1 : cn s (i + 1) = cn s i + 1 := by
        show cn s i + (if bt s i = 10 then 1 else 0) = cn s i + 1
        rw [if_pos h4]
      have e2 : lst s (i + 1) = i := by
        show (if bt s i = 10 then (i : Int) else lst s i) = i
        rw [if_pos h4]
      rw [e1, e2] at hI
      have e3 : (1 : Int) + (cn s i + 1) = 1 + cn s i + 1 := by omega
      have e4 : ((i + 1 : Nat) : Int) - (i : Int) = 1 := by omega
      rw [e3, e4] at hI
      exact hI
    · rw [hw, wrap64_id (by omega) (by omega)]
      have e1 : cn s (i + 1) = cn s i := by
        show cn s i + (if bt s i = 10 then 1 else 0) = cn s i
        rw [if_neg h4]; omega
      have e2 : lst s (i + 1) = lst s i := by
        show (if bt s i = 10 then (i : Int) else lst s i) = lst s i
        rw [if_neg h4]
      rw [e1, e2] at hI
      have e4 : ((i + 1 : Nat) : Int) - lst s i = (i : Int) - lst s i + 1 := by omega
      rw [e4] at hI
      exact hI
theorem refplace_any (s : ByteArray) (hs : s.size ≤ 4611686018427387) (a : Int) : Ev (fun k => transhumanceref1_Place.f k s a) (1 + cn s (clip s a), (clip s a : Int) - lst s (clip s a)) := by
  unfold transhumanceref1_Place.f
  exact refplace_loop s hs a (clip s a) 0 (by omega)
end Go.Proofs.YtkejnnnedgmhiaaDoor.M
