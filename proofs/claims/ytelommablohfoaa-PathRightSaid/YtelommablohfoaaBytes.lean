/- Plain lemmas on bytes: a text as a list, its parts, numbers; no program in sight. No condition. -/
import Derived.Test.YtelommablohfoaaWWords
import Derived.Lib.Strings
import Derived.Lib.Bytealg
namespace Go.Proofs.Ytelommablohfoaa.M
open Go.RowKit Go.Proofs.YtelommablohfoaaW.PrintWords

def L (s : ByteArray) : List UInt8 := s.data.toList
def B (l : List UInt8) : ByteArray := ⟨l.toArray⟩
theorem L_B (l : List UInt8) : L (B l) = l := by simp [L, B]
theorem B_L (s : ByteArray) : B (L s) = s := Lib.mk_data s
theorem L_toList (s : ByteArray) : s.toList = L s := Lib.toList_data s
theorem L_size (s : ByteArray) : s.size = (L s).length := Lib.size_eq s
theorem L_append (s t : ByteArray) : L (s ++ t) = L s ++ L t := by simp [L]
theorem L_extract (s : ByteArray) (a b : Nat) : L (s.extract a b) = ((L s).drop a).take (b - a) := Lib.extract_data s a b
theorem L_take (s : ByteArray) (b : Nat) : L (s.extract 0 b) = (L s).take b := by rw [L_extract]; simp
theorem L_drop (s : ByteArray) (a : Nat) : L (s.extract a s.size) = (L s).drop a := by
  rw [L_extract, L_size, List.take_of_length_le (by simp)]
theorem L_inj {s t : ByteArray} (h : L s = L t) : s = t := by rw [← B_L s, ← B_L t, h]
theorem L_lit (l : List UInt8) : L (⟨l.toArray⟩ : ByteArray) = l := L_B l
theorem bt_L (s : ByteArray) (i : Int) : bt s i = (((L s).getD i.toNat 0).toNat : Int) := by
  unfold bt
  split
  · rename_i h
    have h2 : i.toNat < (L s).length := by rw [← L_size]; exact h
    rw [List.getD_eq_getElem?_getD, List.getElem?_eq_getElem h2]
    rfl
  · rename_i h
    have h2 : (L s).length ≤ i.toNat := by rw [← L_size]; omega
    rw [List.getD_eq_getElem?_getD, List.getElem?_eq_none h2]
    rfl
theorem bt_nat (s : ByteArray) (i : Nat) : bt s (i : Int) = (((L s).getD i 0).toNat : Int) := by rw [bt_L]; rfl
theorem bt_pos (s : ByteArray) (i : Int) : 0 ≤ bt s i := (bt_range s i).1
theorem bt_le (s : ByteArray) (i : Int) : bt s i ≤ 255 := (bt_range s i).2
theorem u8_int {a b : UInt8} : ((a.toNat : Int) = (b.toNat : Int)) ↔ a = b :=
  ⟨fun h => UInt8.toNat_inj.mp (by omega), fun h => by rw [h]⟩
theorem wrap64_id {x : Int} (h0 : -9223372036854775808 ≤ x) (h1 : x ≤ 9223372036854775807) : wrap64 x = x := by
  unfold wrap64
  omega
theorem evShift {α : Type} {g : Nat → Option α} {r : α} (h : Ev (fun k => g (k + 1)) r) : Ev g r := Ev.step (fun _ => rfl) h
theorem evIf {α : Type} {c : Prop} [Decidable c] {A B : Nat → Option α} {r : α} (h1 : c → Ev A r) (h2 : ¬ c → Ev B r) : Ev (fun k => if c then A k else B k) r := by
  by_cases h : c
  · simp only [if_pos h]; exact h1 h
  · simp only [if_neg h]; exact h2 h
theorem evP {α : Type} {c : Prop} [Decidable c] {A B : Nat → Option α} {r : α} (h : c) (h1 : Ev A r) : Ev (fun k => if c then A k else B k) r := evIf (fun _ => h1) (fun h2 => absurd h h2)
theorem evN {α : Type} {c : Prop} [Decidable c] {A B : Nat → Option α} {r : α} (h : ¬ c) (h1 : Ev B r) : Ev (fun k => if c then A k else B k) r := evIf (fun h2 => absurd h2 h) (fun _ => h1)
theorem evBind {α β : Type} {x : Option α} {f : Nat → α → Option β} {a : α} {r : β} (h : x = some a) (k : Ev (fun n => f n a) r) : Ev (fun n => x.bind (f n)) r := by
  subst h; exact k
theorem evNow {α : Type} {a r : α} (h : a = r) : Ev (fun _ => some a) r := by subst h; exact Ev.now _
theorem rdOf_nat (xs : List ByteArray) (i : Nat) : rdOf ByteArray.empty xs (i : Int) = xs.getD i ByteArray.empty := rfl

/-- No slash. -/
def NoSl (l : List UInt8) : Prop := ∀ c ∈ l, c ≠ 47
instance (l : List UInt8) : Decidable (NoSl l) := inferInstanceAs (Decidable (∀ c ∈ l, c ≠ 47))

/-- Parted by slashes; 'cur': what the first word has already. -/
def wgo : List UInt8 → List UInt8 → List (List UInt8)
  | cur, [] => [cur]
  | cur, c :: t => if c = 47 then cur :: wgo [] t else wgo (cur ++ [c]) t
theorem wgo_ne (l : List UInt8) : ∀ cur, wgo cur l ≠ [] := by
  induction l with
  | nil => intro cur; simp [wgo]
  | cons c t ih => intro cur; unfold wgo; split; · simp
                   · exact ih _
theorem wgo_noSl {l : List UInt8} (h : NoSl l) : ∀ cur, wgo cur l = [cur ++ l] := by
  induction l with
  | nil => intro cur; simp [wgo]
  | cons c t ih =>
    intro cur
    unfold wgo
    rw [if_neg (h c (by simp)), ih (fun d hd => h d (by simp [hd]))]
    simp
theorem wgo_append (a t : List UInt8) : ∀ cur, wgo cur (a ++ 47 :: t) = wgo cur a ++ wgo [] t := by
  induction a with
  | nil => intro cur; simp [wgo]
  | cons c a ih =>
    intro cur
    rw [List.cons_append]
    by_cases h : c = 47
    · simp only [wgo, if_pos h, ih, List.cons_append]
    · simp only [wgo, if_neg h, ih]
theorem wgo_first {w : List UInt8} (t : List UInt8) (h : NoSl w) (cur : List UInt8) : wgo cur (w ++ 47 :: t) = (cur ++ w) :: wgo [] t := by
  rw [wgo_append, wgo_noSl h]; rfl

/-- The last slash: what is before it, what is behind it. -/
def lastSplit : List UInt8 → Option (List UInt8 × List UInt8)
  | [] => none
  | c :: t => match lastSplit t with
    | some (a, w) => some (c :: a, w)
    | none => if c = 47 then some ([], t) else none
theorem lastSplit_none {l : List UInt8} (h : lastSplit l = none) : NoSl l := by
  induction l with
  | nil => intro c hc; cases hc
  | cons c t ih =>
    unfold lastSplit at h
    split at h
    · cases h
    · rename_i h2
      split at h
      · cases h
      · rename_i h3
        intro d hd
        rcases List.mem_cons.mp hd with rfl | hd
        · exact h3
        · exact ih h2 d hd
theorem lastSplit_some {l a w : List UInt8} (h : lastSplit l = some (a, w)) : l = a ++ 47 :: w ∧ NoSl w := by
  induction l generalizing a w with
  | nil => cases h
  | cons c t ih =>
    unfold lastSplit at h
    split at h
    · rename_i a' w' h2
      simp only [Option.some.injEq, Prod.mk.injEq] at h
      obtain ⟨rfl, rfl⟩ := h
      obtain ⟨h3, h4⟩ := ih h2
      exact ⟨by rw [h3]; rfl, h4⟩
    · rename_i h2
      split at h
      · rename_i h3
        simp only [Option.some.injEq, Prod.mk.injEq] at h
        obtain ⟨rfl, rfl⟩ := h
        exact ⟨by rw [h3]; rfl, lastSplit_none h2⟩
      · cases h
theorem lastSplit_of {a w : List UInt8} (h : NoSl w) : lastSplit (a ++ 47 :: w) = some (a, w) := by
  have hn : ∀ {v : List UInt8}, NoSl v → lastSplit v = none := by
    intro v hv
    induction v with
    | nil => rfl
    | cons c t ih =>
      unfold lastSplit
      rw [ih (fun d hd => hv d (by simp [hd]))]
      simp only
      rw [if_neg (hv c (by simp))]
  induction a with
  | nil =>
    rw [List.nil_append]
    unfold lastSplit
    rw [hn h]
    simp
  | cons c a ih =>
    rw [List.cons_append]
    unfold lastSplit
    rw [ih]
theorem lastSplit_noSl {v : List UInt8} (hv : NoSl v) : lastSplit v = none := by
  cases h : lastSplit v with
  | none => rfl
  | some p =>
    obtain ⟨h1, _⟩ := lastSplit_some (a := p.1) (w := p.2) h
    exact absurd rfl (hv 47 (by rw [h1]; simp))

/-- The number that digits are. -/
def numGo : List UInt8 → Int → Int × Bool
  | [], n => (n, true)
  | c :: t, n => if (c.toNat : Int) < 48 then (0, false) else if (c.toNat : Int) > 57 then (0, false) else numGo t (10 * n + ((c.toNat : Int) - 48))
def num (l : List UInt8) : Int × Bool :=
  if l.length < 1 ∨ l.length > 9 ∨ (l.length > 1 ∧ l.getD 0 0 = 48) then (0, false) else numGo l 0

/-- May a byte be in a word? -/
def okc (c : UInt8) : Bool := (97 ≤ c && c ≤ 122) || (48 ≤ c && c ≤ 57) || c == 46 || c == 45 || c == 95
def okW (w : List UInt8) : Bool := !(w == []) && !(w == [46]) && !(w == [46, 46]) && w.all okc
def right (l : List UInt8) : Bool := decide (l.length ≤ 40) && (wgo [] l).all okW
theorem okc_slash : ∀ c : UInt8, okc c = true → c ≠ 47 := by
  intro c h e
  subst e
  exact absurd h (by decide)
theorem wgo_all (l : List UInt8) : ∀ cur, (wgo cur l).all (fun w => w.all okc) = (cur.all okc && l.all (fun c => okc c || c == 47)) := by
  induction l with
  | nil => intro cur; simp [wgo]
  | cons c t ih =>
    intro cur
    unfold wgo
    split
    · rename_i h
      rw [List.all_cons, ih, List.all_cons, h]
      simp
    · rename_i h
      rw [ih, List.all_append, List.all_cons]
      have : (c == 47) = false := by simpa using h
      simp [this, Bool.and_assoc]

/-- A path's root, its major. -/
def major (l : List UInt8) : List UInt8 × Int :=
  match lastSplit l with
  | none => (l, 0)
  | some (a, w) => match w with
    | [] => (l, 0)
    | c :: d => if c = 118 then (if (num d).2 = true ∧ 2 ≤ (num d).1 ∧ (num d).1 ≤ 999999 then (a, (num d).1) else (l, 0)) else (l, 0)
def within (s r : List UInt8) : Bool := s == r || (decide (r.length < s.length) && s.take (r.length + 1) == r ++ [47])
def fits (m a : Int) : Bool := a == m || (m == 0 && a == 1)
theorem within_prefix (s r : List UInt8) : within s r = (decide (r.length ≤ s.length) && s.take r.length == r && (s.drop r.length == [] || s.getD r.length 0 == 47)) := by
  unfold within
  by_cases h : s = r
  · subst h; simp
  · rw [show (s == r) = false by simpa using h, Bool.false_or]
    by_cases h1 : r.length < s.length
    · have hg : s.take (r.length + 1) = s.take r.length ++ [s.getD r.length 0] := by
        rw [List.take_succ_eq_append_getElem h1, List.getD_eq_getElem?_getD, List.getElem?_eq_getElem h1]; rfl
      have hd : (s.drop r.length == []) = false := by
        have : s.drop r.length ≠ [] := by intro e; have := congrArg List.length e; simp at this; omega
        simpa using this
      rw [hg, hd, show decide (r.length < s.length) = true by simpa using h1, show decide (r.length ≤ s.length) = true by simpa using Nat.le_of_lt h1]
      simp only [Bool.true_and, Bool.false_or]
      by_cases h2 : s.take r.length = r
      · rw [h2]
        by_cases h3 : s.getD r.length 0 = 47
        · rw [h3]; simp
        · rw [show (s.getD r.length 0 == 47) = false by simpa using h3]
          simp only [beq_self_eq_true, Bool.and_false]
          apply beq_eq_false_iff_ne.mpr
          intro e
          have := List.append_cancel_left e
          simp at this
          exact h3 (by simpa using this)
      · rw [show (s.take r.length == r) = false by simpa using h2]
        simp only [Bool.false_and]
        apply beq_eq_false_iff_ne.mpr
        intro e
        exact h2 (List.append_inj_left' e rfl)
    · rw [show decide (r.length < s.length) = false by simpa using h1, Bool.false_and]
      by_cases h2 : r.length ≤ s.length
      · have e : r.length = s.length := by omega
        have h3 : s.take r.length = s := List.take_of_length_le (by omega)
        rw [h3, show (s == r) = false by simpa using h]
        simp
      · rw [show decide (r.length ≤ s.length) = false by simpa using h2]; simp

/-! ### the order of texts -/
theorem u8_lt {a b : UInt8} : (a < b) ↔ a.toNat < b.toNat := UInt8.lt_iff_toNat_lt
theorem bl_cons (a b : UInt8) (x y : List UInt8) : Op.bytesLess (a :: x) (b :: y) = true ↔ a.toNat < b.toNat ∨ (a = b ∧ Op.bytesLess x y = true) := by
  rw [Op.bytesLess]
  simp only [Bool.or_eq_true, decide_eq_true_eq, Bool.and_eq_true, beq_iff_eq, u8_lt]
theorem bl_irrefl (l : List UInt8) : ¬ Op.bytesLess l l = true := by
  induction l with
  | nil => decide
  | cons a x ih =>
    rw [bl_cons]
    rintro (h | ⟨_, h⟩)
    · omega
    · exact ih h
theorem bl_trans {a b c : List UInt8} (h1 : Op.bytesLess a b = true) (h2 : Op.bytesLess b c = true) : Op.bytesLess a c = true := by
  induction a generalizing b c with
  | nil =>
    rcases c with _ | ⟨z, c⟩
    · rcases b with _ | ⟨y, b⟩
      · exact h1
      · exact absurd h2 (by simp [Op.bytesLess])
    · rfl
  | cons x a ih =>
    rcases b with _ | ⟨y, b⟩
    · exact absurd h1 (by simp [Op.bytesLess])
    · rcases c with _ | ⟨z, c⟩
      · exact absurd h2 (by simp [Op.bytesLess])
      · rw [bl_cons] at h1 h2 ⊢
        rcases h1 with h1 | ⟨rfl, h1⟩
        · rcases h2 with h2 | ⟨rfl, h2⟩
          · left; omega
          · left; exact h1
        · rcases h2 with h2 | ⟨rfl, h2⟩
          · left; exact h2
          · right; exact ⟨rfl, ih h1 h2⟩
theorem bl_total (a b : List UInt8) : a = b ∨ Op.bytesLess a b = true ∨ Op.bytesLess b a = true := by
  induction a generalizing b with
  | nil =>
    rcases b with _ | ⟨y, b⟩
    · exact .inl rfl
    · exact .inr (.inl rfl)
  | cons x a ih =>
    rcases b with _ | ⟨y, b⟩
    · exact .inr (.inr rfl)
    · rw [bl_cons, bl_cons]
      rcases Nat.lt_trichotomy x.toNat y.toNat with h | h | h
      · exact .inr (.inl (.inl h))
      · have e : x = y := UInt8.toNat_inj.mp h
        subst e
        rcases ih b with h2 | h2 | h2
        · exact .inl (by rw [h2])
        · exact .inr (.inl (.inr ⟨rfl, h2⟩))
        · exact .inr (.inr (.inr ⟨rfl, h2⟩))
      · exact .inr (.inr (.inl h))
end Go.Proofs.Ytelommablohfoaa.M
