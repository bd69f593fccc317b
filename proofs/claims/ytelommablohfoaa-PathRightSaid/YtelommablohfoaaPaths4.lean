/- What the shared functions of the path statements compute, in plain Lean: made paths, digits, the chapter's example, fits, Find. Conditions: sizes as stated. -/
import Derived.Test.YtelommablohfoaaPaths3
import Derived.Test.YtelommablohfoaaXx9
namespace Go.Proofs.Ytelommablohfoaa.M
set_option linter.unusedVariables false
set_option linter.unusedSimpArgs false
open Go.RowKit Go.Proofs.Ytelommablohfoaa.X Go.Proofs.YtelommablohfoaaW.PrintWords Go.Proofs.YtelommablohfoaaW.PrintLast

/-! ### within -/
theorem tmod_fix (a b : Int) (hb : 0 < b) : (if Int.tmod a b < 0 then Int.tmod a b + b else Int.tmod a b) = a % b := by
  have h0 := Int.emod_nonneg a (show b ≠ 0 by omega)
  have h1 := Int.emod_lt_of_pos a hb
  rw [Int.tmod_eq_emod]
  by_cases h : 0 ≤ a ∨ b ∣ a
  · rw [if_pos h, if_neg (by omega)]; omega
  · rw [if_neg h, if_pos (by omega)]; omega
theorem within_int (a b : Int) (hb : 0 < b) (hb2 : b ≤ 4611686018427387904) : transhumancelaw4_within.f a b = some (a % b) := by
  have h := tmod_fix a b hb
  have h0 := Int.emod_nonneg a (show b ≠ 0 by omega)
  have h1 := Int.emod_lt_of_pos a hb
  unfold transhumancelaw4_within.f
  rw [if_neg (by omega)]
  by_cases h2 : Int.tmod a b < 0
  · rw [if_pos h2] at h ⊢
    rw [h, wrap64_id (by omega) (by omega)]
  · rw [if_neg h2] at h ⊢
    rw [h]
theorem within2_int (a b : Int) (hb : 0 < b) (hb2 : b ≤ 4611686018427387904) : transhumancelaw2_within.f a b = some (a % b) := within_int a b hb hb2
theorem tmod_nn {a b : Int} (ha : 0 ≤ a) : Int.tmod a b = a % b := Int.tmod_eq_emod_of_nonneg ha
theorem tdiv_nn {a b : Int} (ha : 0 ≤ a) : Int.tdiv a b = a / b := Int.tdiv_eq_ediv_of_nonneg ha

/-! ### made paths -/
def ws : List (List UInt8) := [[97], [98], [97, 46, 98], [99, 45, 100], [118, 50], [118, 51], [118, 49], [118, 48, 50], [95], [108, 105, 98], [118, 50, 48]]
def wAt (k : Int) : List UInt8 := ws.getD k.toNat []
def mkGo : Nat → Int → List UInt8 → List UInt8
  | 0, _, s => s
  | i + 1, k, s => mkGo i (k / 4) (s ++ 47 :: wAt ((k / 4) % 11))
def mk (n : Int) : List UInt8 :=
  let k := n % 1099511627776
  let s := mkGo ((k / 11) % 4).toNat (k / 11) (wAt (k % 11))
  if s.length > 40 then [97, 47, 98] else s
theorem wAt_ok (k : Int) (h0 : 0 ≤ k) (h1 : k < 11) : okW (wAt k) = true ∧ NoSl (wAt k) ∧ (wAt k).length ≤ 3 ∧ rdOf ByteArray.empty (ws.map B) k = B (wAt k) := by
  obtain ⟨n, rfl⟩ : ∃ n : Nat, k = n := ⟨k.toNat, by omega⟩
  refine ⟨?_, ?_, ?_, ?_⟩
  · have : ∀ n, n < 11 → okW (ws.getD n []) = true := by decide
    exact this n (by omega)
  · have : ∀ n, n < 11 → NoSl (ws.getD n []) := by decide
    exact this n (by omega)
  · have : ∀ n, n < 11 → (ws.getD n []).length ≤ 3 := by decide
    exact this n (by omega)
  · exact rdOf_map ws n (by show n < 11; omega)
theorem make_loop (d : Nat) : ∀ (k : Int) (s : List UInt8), 0 ≤ k → k ≤ 1099511627776 → s.length + 4 * d ≤ 1000 → d ≤ 5 →
    Ev (fun n => transhumancelaw4_Make.l0 n k (ws.map B) (B s) d) (B (if (mkGo d k s).length > 40 then [97, 47, 98] else mkGo d k s)) := by
  induction d with
  | zero =>
    intro k s h0 h1 hs hd
    refine evShift ?_
    simp only [transhumancelaw4_Make.l0]
    have hz : (B s).size = s.length := by rw [L_size, L_B]
    refine evN (by omega) ?_
    rw [hz]
    unfold mkGo
    by_cases h : s.length > 40
    · rw [if_pos h]
      exact evP (by omega) (Ev.now _)
    · rw [if_neg h]
      exact evN (by omega) (Ev.now _)
  | succ d ih =>
    intro k s h0 h1 hs hd
    have e1 : wrap64 (Int.tdiv k 4) = k / 4 := by rw [tdiv_nn h0]; exact wrap64_id (by omega) (by omega)
    have e2 : Int.tmod (k / 4) 11 = k / 4 % 11 := tmod_nn (by omega)
    obtain ⟨h2, h3, h4, h5⟩ := wAt_ok (k / 4 % 11) (by omega) (by omega)
    have hz : (B s).size = s.length := by rw [L_size, L_B]
    have hz2 : (B (wAt (k / 4 % 11))).size = (wAt (k / 4 % 11)).length := by rw [L_size, L_B]
    have e3 : B s ++ (⟨#[47]⟩ : ByteArray) ++ B (wAt (k / 4 % 11)) = B (s ++ 47 :: wAt (k / 4 % 11)) := L_inj (by simp only [L_append, L_B]; simp [L])
    have e4 : wrap64 (((d + 1 : Nat) : Int) - 1) = (d : Int) := by rw [wrap64_id (by omega) (by omega)]; omega
    refine evShift ?_
    simp only [transhumancelaw4_Make.l0, e1, e2, h5, hz, hz2, e3, e4]
    refine evP (by omega) (evP (by omega) (evP (by omega) (evP (by show _ < (11 : Int); omega) (evP (by omega) ?_))))
    exact ih (k / 4) (s ++ 47 :: wAt (k / 4 % 11)) (by omega) (by omega) (by simp; omega) (by omega)
theorem make_ev (n : Int) : Ev (fun k => transhumancelaw4_Make.f k n) (B (mk n)) := by
  unfold transhumancelaw4_Make.f
  refine evBind (within_int n _ (by omega) (by omega)) ?_
  have h0 : 0 ≤ n % 1099511627776 := by omega
  have h1 : n % 1099511627776 < 1099511627776 := by omega
  unfold mk
  simp only
  generalize n % 1099511627776 = k at *
  have e1 : wrap64 (Int.tdiv k 11) = k / 11 := by rw [tdiv_nn h0]; exact wrap64_id (by omega) (by omega)
  have e2 : Int.tmod k 11 = k % 11 := tmod_nn h0
  have e3 : Int.tmod (k / 11) 4 = k / 11 % 4 := tmod_nn (by omega)
  obtain ⟨h2, h3, h4, h5⟩ := wAt_ok (k % 11) (by omega) (by omega)
  refine evBind rfl ?_
  simp only [e1, e2, e3]
  refine evP (by omega) (evP (by show _ < (11 : Int); omega) ?_)
  have e4 : k / 11 % 4 = ((k / 11 % 4).toNat : Int) := by omega
  have := make_loop (k / 11 % 4).toNat (k / 11) (wAt (k % 11)) (by omega) (by omega) (by omega) (by omega)
  rw [← h5, ← e4] at this
  exact this
theorem mkGo_right (d : Nat) : ∀ (k : Int) (s : List UInt8), 0 ≤ k → (wgo [] s).all okW = true → (wgo [] (mkGo d k s)).all okW = true := by
  induction d with
  | zero => intro k s _ h; exact h
  | succ d ih =>
    intro k s h0 h
    obtain ⟨h2, h3, h4, h5⟩ := wAt_ok (k / 4 % 11) (by omega) (by omega)
    rw [mkGo]
    refine ih _ _ (by omega) ?_
    rw [wgo_append, wgo_noSl h3, List.all_append, h]
    simp [h2]
theorem mk_right (n : Int) : right (mk n) = true := by
  have h0 : 0 ≤ n % 1099511627776 := by omega
  unfold mk
  simp only
  generalize n % 1099511627776 = k at *
  obtain ⟨h2, h3, h4, h5⟩ := wAt_ok (k % 11) (by omega) (by omega)
  by_cases h : (mkGo (k / 11 % 4).toNat (k / 11) (wAt (k % 11))).length > 40
  · rw [if_pos h]; decide
  · rw [if_neg h]
    unfold right
    rw [mkGo_right _ _ _ (by omega) (by rw [wgo_noSl h3]; simpa using h2)]
    simp
    omega
theorem right_len {l : List UInt8} (h : right l = true) : l.length ≤ 40 := by
  unfold right at h
  simp only [Bool.and_eq_true, decide_eq_true_eq] at h
  exact h.1
theorem wgo_cur (l : List UInt8) : ∀ cur, ∃ w r, wgo cur l = (cur ++ w) :: r := by
  induction l with
  | nil => intro cur; exact ⟨[], [], by simp [wgo]⟩
  | cons c t ih =>
    intro cur
    rw [wgo]
    split
    · exact ⟨[], wgo [] t, by simp⟩
    · obtain ⟨w, r, h⟩ := ih (cur ++ [c])
      exact ⟨c :: w, r, by rw [h]; simp⟩
theorem right_head {l : List UInt8} (h : right l = true) : l.head? ≠ some 47 := by
  unfold right at h
  simp only [Bool.and_eq_true] at h
  intro h2
  rcases l with _ | ⟨c, t⟩
  · cases h2
  · simp at h2
    subst h2
    have := h.2
    rw [wgo, if_pos rfl, List.all_cons] at this
    simp [okW] at this
theorem right_ne {l : List UInt8} (h : right l = true) : l ≠ [] := by
  intro e
  subst e
  exact absurd h (by decide)
theorem mk_size (n : Int) : (B (mk n)).size ≤ 40 := by rw [L_size, L_B]; exact right_len (mk_right n)
theorem mk_head (n : Int) : (L (B (mk n))).head? ≠ some 47 := by rw [L_B]; exact right_head (mk_right n)

/-! ### digits -/
def digN (n : Nat) : List UInt8 := if n < 10 then [UInt8.ofNat (48 + n)] else digN (n / 10) ++ [UInt8.ofNat (48 + n % 10)]
theorem digN_len (n : Nat) : (digN n).length ≤ n + 1 := by
  induction n using Nat.strongRecOn with
  | _ n ih =>
    unfold digN
    split
    · simp
    · have := ih (n / 10) (by omega)
      simp
      omega
theorem digits_one (n : Nat) (h : n < 10) : Ev (fun k => transhumancelaw4_digits.f k (n : Int)) (B [UInt8.ofNat (48 + n)]) := by
  refine evShift ?_
  simp only [transhumancelaw4_digits.f]
  refine evN (by omega) (evNow ?_)
  have e : wrap64 (48 + (n : Int)) % 256 = ((48 + n : Nat) : Int) := by rw [wrap64_id (by omega) (by omega)]; omega
  rw [e]
  rfl
theorem digits_ev (n : Nat) (hn : n ≤ 1000000000000) : Ev (fun k => transhumancelaw4_digits.f k (n : Int)) (B (digN n)) := by
  induction n using Nat.strongRecOn with
  | _ n ih =>
    by_cases h : n < 10
    · unfold digN
      rw [if_pos h]
      exact digits_one n h
    · have e : digN n = digN (n / 10) ++ [UInt8.ofNat (48 + n % 10)] := by rw [digN, if_neg h]
      have hl := digN_len (n / 10)
      have hz : (B (digN (n / 10))).size = (digN (n / 10)).length := by rw [L_size, L_B]
      have hz1 : (B [UInt8.ofNat (48 + n % 10)]).size = 1 := rfl
      have e1 : wrap64 (Int.tdiv (n : Int) 10) = ((n / 10 : Nat) : Int) := by rw [tdiv_nn (by omega), wrap64_id (by omega) (by omega)]; omega
      have e2 : Int.tmod (n : Int) 10 = ((n % 10 : Nat) : Int) := by rw [tmod_nn (by omega)]; omega
      refine evShift ?_
      simp only [transhumancelaw4_digits.f, e1, e2]
      refine evP (by omega) (Ev.bind (ih (n / 10) (by omega) (by omega)) (Ev.bind (digits_one (n % 10) (by omega)) (evP (by omega) (evNow ?_))))
      rw [e]
      exact L_inj (by rw [L_append, L_B, L_B, L_B])

/-! ### the chapter's example -/
theorem known_ev : Ev (fun k => transhumancelaw4_known.f k) true := Ev.of transhumancelaw4_known.mono (k := 40) (by kernel_rfl)

/-! ### versions -/
theorem ref_fits_ev (s : ByteArray) (hs : s.size ≤ 1000000000) (v x y : Int) (z : ByteArray) : Ev (fun k => transhumanceref4_Fits.f k s v x y z) (fits (major (L s)).2 v) := by
  unfold transhumanceref4_Fits.f
  refine Ev.bind (ref_major_ev s hs) ?_
  unfold fits
  by_cases h : (major (L s)).2 = v
  · rw [if_pos h]; exact evNow (by simp [h])
  · rw [if_neg h]
    by_cases h2 : (major (L s)).2 = 0
    · rw [if_pos h2]
      refine evNow ?_
      have h3 : (v == 0) = false := by rw [beq_eq_false_iff_ne]; omega
      simp [h2, h3]
    · rw [if_neg h2]
      refine evNow ?_
      have h3 : (v == (major (L s)).2) = false := by rw [beq_eq_false_iff_ne]; omega
      simp [h2, h3]
def vs : List (List UInt8) := [[48], [49], [49, 48], [50], [97], [114, 99], [114, 99, 49], [65], [45], [48, 97], [97, 108, 112, 104, 97], [57, 57, 57, 57, 57, 57, 57, 57, 57, 57], [50, 48, 50, 48, 48, 49, 48, 49, 48, 48, 48, 48, 48, 48, 45, 97, 98, 99, 100, 101, 102, 48, 49, 50, 51, 52, 53]]
theorem vs_ok (k : Int) (h0 : 0 ≤ k) (h1 : k < 13) : (rdOf ByteArray.empty (vs.map B) k).size ≤ 30 := by
  obtain ⟨n, rfl⟩ : ∃ n : Nat, k = n := ⟨k.toNat, by omega⟩
  rw [rdOf_map vs n (by show n < 13; omega), L_size, L_B]
  have : ∀ n, n < 13 → (vs.getD n []).length ≤ 30 := by decide
  exact this n (by omega)
theorem make2_loop (d : Nat) : ∀ (i x a b c : Int) (s : ByteArray), 0 ≤ x → x ≤ 1099511627776 → 0 ≤ i → i + d = 4 → (s.size : Int) ≤ 31 * i →
    ∃ p, Ev (fun n => transhumancelaw2_Make.l0 n (vs.map B) x i a b c s) (a, b, c, p) := by
  induction d with
  | zero =>
    intro i x a b c s h0 h1 hi hd hs
    by_cases h : (s.size : Int) > 40
    · refine ⟨(⟨#[114, 99, 46, 49]⟩ : ByteArray), evShift ?_⟩
      simp only [transhumancelaw2_Make.l0, tmod_nn h0]
      exact evN (by omega) (evP h (Ev.now _))
    · refine ⟨s, evShift ?_⟩
      simp only [transhumancelaw2_Make.l0, tmod_nn h0]
      exact evN (by omega) (evN h (Ev.now _))
  | succ d ih =>
    intro i x a b c s h0 h1 hi hd hs
    have e1 : wrap64 (Int.tdiv x 4) = x / 4 := by rw [tdiv_nn h0]; exact wrap64_id (by omega) (by omega)
    have e2 : Int.tmod (x / 4) 13 = x / 4 % 13 := tmod_nn (by omega)
    have e3 : wrap64 (Int.tdiv x 13) = x / 13 := by rw [tdiv_nn h0]; exact wrap64_id (by omega) (by omega)
    have e4 : wrap64 (i + 1) = i + 1 := wrap64_id (by omega) (by omega)
    have hv := vs_ok (x / 4 % 13) (by omega) (by omega)
    by_cases hlt : i < x % 4
    · by_cases hp : i > 0
      · obtain ⟨p, hp2⟩ := ih (i + 1) (x / 13) a b c (s ++ (⟨#[46]⟩ : ByteArray) ++ rdOf ByteArray.empty (vs.map B) (x / 4 % 13)) (by omega) (by omega) (by omega) (by omega) (by
          rw [ByteArray.size_append, ByteArray.size_append]
          have : (⟨#[46]⟩ : ByteArray).size = 1 := rfl
          omega)
        refine ⟨p, evShift ?_⟩
        simp only [transhumancelaw2_Make.l0, tmod_nn h0, e1, e2, e3, e4]
        exact evP hlt (evP hp (evP (by omega) (evP (by omega) (evP (by show _ < (13 : Int); omega) (evP (by omega) hp2)))))
      · obtain ⟨p, hp2⟩ := ih (i + 1) (x / 13) a b c (s ++ rdOf ByteArray.empty (vs.map B) (x / 4 % 13)) (by omega) (by omega) (by omega) (by omega) (by
          rw [ByteArray.size_append]
          omega)
        refine ⟨p, evShift ?_⟩
        simp only [transhumancelaw2_Make.l0, tmod_nn h0, e1, e2, e3, e4]
        exact evP hlt (evN hp (evP (by omega) (evP (by show _ < (13 : Int); omega) (evP (by omega) hp2))))
    · by_cases h : (s.size : Int) > 40
      · refine ⟨(⟨#[114, 99, 46, 49]⟩ : ByteArray), evShift ?_⟩
        simp only [transhumancelaw2_Make.l0, tmod_nn h0]
        exact evN hlt (evP h (Ev.now _))
      · refine ⟨s, evShift ?_⟩
        simp only [transhumancelaw2_Make.l0, tmod_nn h0]
        exact evN hlt (evN h (Ev.now _))
theorem make2_ev (n m : Int) : ∃ a b c p, Ev (fun k => transhumancelaw2_Make.f k n m) (a, b, c, p) := by
  have hj : ∀ a b c : Int, ∃ p, Ev (fun k => transhumancelaw2_Make.j0 k m a b c (⟨#[]⟩ : ByteArray)) (a, b, c, p) := by
    intro a b c
    obtain ⟨p, hp⟩ := make2_loop 4 0 (m % 1099511627776) a b c (⟨#[]⟩ : ByteArray) (by omega) (by omega) (by omega) (by omega) (by decide)
    refine ⟨p, evShift ?_⟩
    simp only [transhumancelaw2_Make.j0]
    exact evBind (within2_int m _ (by omega) (by omega)) hp
  unfold transhumancelaw2_Make.f
  rw [within2_int n _ (by omega) (by omega)]
  simp only [Option.bind_some]
  by_cases h1 : Int.tmod (wrap64 (Int.tdiv (n % 1099511627776) 48)) 9 = 0
  · simp only [if_pos h1]
    obtain ⟨p, hp⟩ := hj _ _ _
    exact ⟨_, _, _, p, hp⟩
  simp only [if_neg h1]
  by_cases h2 : Int.tmod (wrap64 (Int.tdiv (n % 1099511627776) 48)) 9 = 1
  · simp only [if_pos h2]
    obtain ⟨p, hp⟩ := hj _ _ _
    exact ⟨_, _, _, p, hp⟩
  simp only [if_neg h2]
  by_cases h3 : Int.tmod (wrap64 (Int.tdiv (n % 1099511627776) 48)) 9 = 2
  · simp only [if_pos h3]
    obtain ⟨p, hp⟩ := hj _ _ _
    exact ⟨_, _, _, p, hp⟩
  simp only [if_neg h3]
  obtain ⟨p, hp⟩ := hj _ _ _
  exact ⟨_, _, _, p, hp⟩
end Go.Proofs.Ytelommablohfoaa.M
