/- Quoting, unquoting, plain bytes of the text statements: what the program's and the document's functions compute, in plain Lean. Conditions: sizes as stated. -/
import Derived.Test.YtkejnnnedgmhiaaDoorXx10
import Derived.Test.YtkejnnnedgmhiaaDoorXx12
import Derived.Test.YtkejnnnedgmhiaaDoorTText
import Derived.Test.YtkejnnnedgmhiaaDoorTNum
namespace Go.Proofs.YtkejnnnedgmhiaaDoor.M
set_option linter.unusedVariables false
set_option linter.unusedSimpArgs false
open Go.RowKit Go.Proofs.YtkejnnnedgmhiaaDoorW.PrintWords Go.Proofs.YtkejnnnedgmhiaaDoor.X
theorem all_u8 {p : UInt8 → Prop} (h : ∀ n : Fin 256, p (UInt8.ofNat n.val)) (c : UInt8) : p c := by
  have h1 := h ⟨c.toNat, c.toNat_lt⟩
  simp only [UInt8.ofNat_toNat] at h1
  exact h1
def N (l : List UInt8) : List Int := l.map fun x => (x.toNat : Int)
theorem N_append (a b : List UInt8) : N (a ++ b) = N a ++ N b := by simp [N]
theorem N_len (a : List UInt8) : (N a).length = a.length := by simp [N]
theorem str_N (l : List UInt8) : strOfNums (N l) = B l := by
  apply L_inj
  rw [L_B]
  unfold L
  rw [strOfNums_data, N, List.map_map]
  have e : ((fun n : Int => UInt8.ofNat n.toNat) ∘ fun x : UInt8 => (x.toNat : Int)) = id := by
    funext x
    simp
  rw [e, List.map_id]
theorem B_size (l : List UInt8) : (B l).size = l.length := by rw [L_size, L_B]
theorem B_append (a b : List UInt8) : B a ++ B b = B (a ++ b) := by apply L_inj; rw [L_append, L_B, L_B, L_B]
theorem idx_ok (x : ByteArray) (c : UInt8) : strings_IndexByte.f x (c.toNat : Int) = some (Lib.indexByte (L x) c) := by
  unfold strings_IndexByte.f stringslite_IndexByte.f
  rw [Option.bind_some, Int.toNat_natCast]
  have e : c.toNat.toUInt8 = c := UInt8.ofNat_toNat
  rw [e]
  rfl
theorem hasPre (s t : ByteArray) : strings_HasPrefix.f s t = some (decide (t.size ≤ s.size) && (L s).take t.size == L t) := by
  unfold strings_HasPrefix.f stringslite_HasPrefix.f
  by_cases h : t.size ≤ s.size
  · rw [if_pos (by omega), if_pos (by omega), if_pos (by omega)]
    simp only [Option.bind_some, L_toList, L_take, h, decide_true, Bool.true_and, Int.toNat_natCast]
  · rw [if_neg (by omega)]
    simp [h]

/-! ### quoting -/
def esc (c : UInt8) : List UInt8 := if c = 34 then [92, 34] else if c = 92 then [92, 92] else if c = 10 then [92, 110] else if c = 9 then [92, 116] else [c]
def quote (l : List UInt8) : List UInt8 := 34 :: (l.flatMap esc ++ [34])
theorem esc_len (c : UInt8) : (esc c).length ≤ 2 := by
  unfold esc
  repeat' split
  all_goals simp
theorem esc_idx : ∀ c : UInt8, (0 ≤ Lib.indexByte [34, 92, 10, 9] c ∧ Lib.indexByte [34, 92, 10, 9] c < 5 ∧ N (esc c) = [92, bt (⟨#[34, 92, 110, 116, 47]⟩ : ByteArray) (Lib.indexByte [34, 92, 10, 9] c)]) ∨ (Lib.indexByte [34, 92, 10, 9] c < 0 ∧ esc c = [c]) :=
  all_u8 (by decide +kernel)
theorem text_quote_loop (s : ByteArray) (hs : s.size ≤ 1000000000000) (d : Nat) : ∀ (i : Nat) (acc : List UInt8), i + d = s.size → acc.length ≤ 1 + 2 * i →
    Ev (fun k => text_Quote.l0 k s (N acc) (s.size : Int) (i : Int)) (B (acc ++ ((L s).drop i).flatMap esc ++ [34])) := by
  induction d with
  | zero =>
    intro i acc hi ha
    have e : (L s).drop i = [] := List.drop_of_length_le (by rw [← L_size]; omega)
    refine evShift ?_
    simp only [text_Quote.l0]
    refine evN (by omega) (evP (by rw [N_len]; omega) (evNow ?_))
    rw [e, List.flatMap_nil, List.append_nil, ← str_N, N_append]
    rfl
  | succ d ih =>
    intro i acc hi ha
    have hl : i < (L s).length := by rw [← L_size]; omega
    have hw : wrap64 ((i : Int) + 1) = ((i + 1 : Nat) : Int) := by rw [wrap64_id (by omega) (by omega)]; omega
    have hx : L ((⟨#[34, 92, 10, 9, 47]⟩ : ByteArray).extract 0 4) = [34, 92, 10, 9] := by rw [L_take]; rfl
    have hb := bt_nat s i
    have hg := getD_drop hl
    generalize (L s).getD i 0 = c at *
    have hel := esc_len c
    have hI := ih (i + 1) (acc ++ esc c) (by omega) (by rw [List.length_append]; omega)
    rw [hg, List.flatMap_cons, ← List.append_assoc acc]
    refine evShift ?_
    simp only [text_Quote.l0, hb, hw]
    refine evP (by omega) (evP (by omega) (evP (by omega) (evP (by omega) (evP (by omega) (evBind (by rw [idx_ok, hx]) ?_)))))
    rcases esc_idx c with ⟨h1, h2, h3⟩ | ⟨h1, h2⟩
    · refine evP (by omega) (evP h1 (evP h2 (evBind rfl (evP (by rw [N_len, List.length_cons, List.length_cons, List.length_nil]; omega) ?_))))
      rw [← h3, ← N_append]
      exact hI
    · refine evN (by omega) (evP (by rw [N_len]; omega) ?_)
      have e : N acc ++ [(c.toNat : Int)] = N (acc ++ esc c) := by rw [N_append, h2]; rfl
      rw [e]
      exact hI
theorem text_quote (s : ByteArray) (hs : s.size ≤ 1000000000000) : Ev (fun k => text_Quote.f k s) (B (quote (L s))) := by
  unfold text_Quote.f
  exact text_quote_loop s hs s.size 0 [34] (by omega) (by simp)
theorem ref_quote_loop (s : ByteArray) (hs : s.size ≤ 1000000000000) (d : Nat) : ∀ (i : Nat) (acc : List UInt8), i + d = s.size → acc.length ≤ 1 + 2 * i →
    Ev (fun k => transhumanceref1_Quote.l0 k s (B acc) (i : Int)) (B (acc ++ ((L s).drop i).flatMap esc ++ [34])) := by
  induction d with
  | zero =>
    intro i acc hi ha
    have e : (L s).drop i = [] := List.drop_of_length_le (by rw [← L_size]; omega)
    refine evShift ?_
    simp only [transhumanceref1_Quote.l0]
    refine evN (by omega) (evP (by rw [B_size]; omega) (evNow ?_))
    rw [e, List.flatMap_nil, List.append_nil, ← B_append]
    rfl
  | succ d ih =>
    intro i acc hi ha
    have hl : i < (L s).length := by rw [← L_size]; omega
    have hw : wrap64 ((i : Int) + 1) = ((i + 1 : Nat) : Int) := by rw [wrap64_id (by omega) (by omega)]; omega
    have hb := bt_nat s i
    have hg := getD_drop hl
    have hx : L (s.extract i (i + 1)) = [(L s).getD i 0] := by
      rw [L_extract, hg, show i + 1 - i = 1 by omega]; rfl
    generalize (L s).getD i 0 = c at *
    have hel := esc_len c
    have hI := ih (i + 1) (acc ++ esc c) (by omega) (by rw [List.length_append]; omega)
    rw [hg, List.flatMap_cons, ← List.append_assoc acc]
    have hput : ∀ t : ByteArray, L t = esc c → Ev (fun k => transhumanceref1_Quote.l0 k s (B acc ++ t) ((i + 1 : Nat) : Int)) (B (acc ++ esc c ++ ((L s).drop (i + 1)).flatMap esc ++ [34])) := by
      intro t ht
      have e : B acc ++ t = B (acc ++ esc c) := by apply L_inj; rw [L_append, L_B, L_B, ht]
      rw [e]
      exact hI
    refine evShift ?_
    simp only [transhumanceref1_Quote.l0, hb, hw, Int.toNat_natCast]
    have hBs := B_size acc
    refine evP (by omega) (evP (by omega) (evIf (fun h1 => ?_) (fun h1 => evIf (fun h2 => ?_) (fun h2 => evIf (fun h3 => ?_) (fun h3 => evIf (fun h4 => ?_) (fun h4 => ?_))))))
    · have e : c = 34 := (u8_int (b := 34)).mp h1
      exact evP (by omega) (hput _ (by rw [e]; rfl))
    · have e : c = 92 := (u8_int (b := 92)).mp h2
      exact evP (by omega) (hput _ (by rw [e]; rfl))
    · have e : c = 10 := (u8_int (b := 10)).mp h3
      exact evP (by omega) (hput _ (by rw [e]; rfl))
    · have e : c = 9 := (u8_int (b := 9)).mp h4
      exact evP (by omega) (hput _ (by rw [e]; rfl))
    · refine evP (by omega) (evP (by omega) (evP ?_ (hput _ ?_)))
      · rw [L_size (s.extract i (i + 1)), hx, List.length_singleton]; omega
      · rw [hx]
        unfold esc
        rw [if_neg (fun h => h1 (by rw [h]; rfl)), if_neg (fun h => h2 (by rw [h]; rfl)), if_neg (fun h => h3 (by rw [h]; rfl)), if_neg (fun h => h4 (by rw [h]; rfl))]
theorem ref_quote (s : ByteArray) (hs : s.size ≤ 1000000000000) : Ev (fun k => transhumanceref1_Quote.f k s) (B (quote (L s))) := by
  unfold transhumanceref1_Quote.f
  exact ref_quote_loop s hs s.size 0 [34] (by omega) (by simp)
theorem flat_len (l : List UInt8) : (l.flatMap esc).length ≤ 2 * l.length := by
  induction l with
  | nil => simp
  | cons c l ih =>
    have := esc_len c
    rw [List.flatMap_cons, List.length_append, List.length_cons]
    omega
theorem quote_len (l : List UInt8) : (quote l).length ≤ 2 * l.length + 2 := by
  have := flat_len l
  unfold quote
  rw [List.length_cons, List.length_append, List.length_singleton]
  omega

/-! ### plain bytes -/
def okB (c : UInt8) : Bool := decide (okI (c.toNat : Int))
theorem okI_iff (x : Int) : okI x ↔ (x = 9 ∨ x = 10 ∨ (32 ≤ x ∧ x ≤ 126)) := Iff.rfl
theorem text_plain_ok (x : Int) : text_plain.f x = some (decide (okI x)) := by
  have ho := okI_iff x
  unfold text_plain.f
  by_cases h1 : x = 9
  · rw [if_pos h1, decide_eq_true (ho.mpr (by omega))]
  · by_cases h2 : x = 10
    · rw [if_neg h1, if_pos h2, decide_eq_true (ho.mpr (by omega))]
    · by_cases h3 : x ≥ 32
      · rw [if_neg h1, if_neg h2, if_pos h3]
        exact congrArg some (decide_eq_decide.mpr (by rw [ho]; omega))
      · rw [if_neg h1, if_neg h2, if_neg h3, decide_eq_false (by rw [ho]; omega)]
theorem ref_bad_ok (x : Int) : transhumanceref1_bad.f x = some (!decide (okI x)) := by
  have ho := okI_iff x
  unfold transhumanceref1_bad.f
  by_cases h1 : x = 9
  · rw [if_pos h1, decide_eq_true (ho.mpr (by omega))]; rfl
  · by_cases h2 : x = 10
    · rw [if_neg h1, if_pos h2, decide_eq_true (ho.mpr (by omega))]; rfl
    · by_cases h3 : x < 32
      · rw [if_neg h1, if_neg h2, if_pos h3, decide_eq_false (by rw [ho]; omega)]; rfl
      · rw [if_neg h1, if_neg h2, if_neg h3, ← decide_not]
        exact congrArg some (decide_eq_decide.mpr (by rw [ho]; omega))
theorem text_all_loop (s : ByteArray) (hs : s.size ≤ 4611686018427387904) (d : Nat) : ∀ i : Nat, i + d = s.size → Ev (fun k => text_Plain.l0 k s (s.size : Int) (i : Int)) (((L s).drop i).all okB) := by
  induction d with
  | zero =>
    intro i hi
    have e : (L s).drop i = [] := List.drop_of_length_le (by rw [← L_size]; omega)
    refine evShift ?_
    simp only [text_Plain.l0]
    refine evN (by omega) (evNow ?_)
    rw [e]; rfl
  | succ d ih =>
    intro i hi
    have hl : i < (L s).length := by rw [← L_size]; omega
    have hw : wrap64 ((i : Int) + 1) = ((i + 1 : Nat) : Int) := by rw [wrap64_id (by omega) (by omega)]; omega
    have hI := ih (i + 1) (by omega)
    rw [getD_drop hl, List.all_cons]
    refine evShift ?_
    simp only [text_Plain.l0, bt_nat, hw]
    refine evP (by omega) (evP (by omega) (evP (by omega) (evBind (text_plain_ok _) (evIf (fun h => ?_) (fun h => ?_)))))
    · have e : okB ((L s).getD i 0) = true := h
      rw [e, Bool.true_and]; exact hI
    · have e : okB ((L s).getD i 0) = false := decide_eq_false (fun h2 => h (decide_eq_true h2))
      rw [e, Bool.false_and]; exact Ev.now _
theorem text_all (s : ByteArray) (hs : s.size ≤ 4611686018427387904) : Ev (fun k => text_Plain.f k s) ((L s).all okB) := by
  unfold text_Plain.f
  exact text_all_loop s hs s.size 0 (by omega)
theorem ref_all_loop (s : ByteArray) (hs : s.size ≤ 4611686018427387904) (d : Nat) : ∀ i : Nat, i + d = s.size → Ev (fun k => transhumanceref1_Plain.l0 k s (i : Int)) (((L s).drop i).all okB) := by
  induction d with
  | zero =>
    intro i hi
    have e : (L s).drop i = [] := List.drop_of_length_le (by rw [← L_size]; omega)
    refine evShift ?_
    simp only [transhumanceref1_Plain.l0]
    refine evN (by omega) (evNow ?_)
    rw [e]; rfl
  | succ d ih =>
    intro i hi
    have hl : i < (L s).length := by rw [← L_size]; omega
    have hw : wrap64 ((i : Int) + 1) = ((i + 1 : Nat) : Int) := by rw [wrap64_id (by omega) (by omega)]; omega
    have hI := ih (i + 1) (by omega)
    rw [getD_drop hl, List.all_cons]
    refine evShift ?_
    simp only [transhumanceref1_Plain.l0, bt_nat, hw]
    refine evP (by omega) (evP (by omega) (evBind (ref_bad_ok _) (evIf (fun h => ?_) (fun h => ?_))))
    · have e : okB ((L s).getD i 0) = false := by simpa [okB] using h
      rw [e, Bool.false_and]; exact Ev.now _
    · have e : okB ((L s).getD i 0) = true := by simpa [okB] using h
      rw [e, Bool.true_and]; exact hI
theorem ref_all (s : ByteArray) (hs : s.size ≤ 4611686018427387904) : Ev (fun k => transhumanceref1_Plain.f k s) ((L s).all okB) := by
  unfold transhumanceref1_Plain.f
  exact ref_all_loop s hs s.size 0 (by omega)
theorem okay_all {s : ByteArray} (h : Okay s) : (L s).all okB = true := by
  rw [List.all_eq_true]
  intro c hc
  exact decide_eq_true (h c hc)

/-! ### unquoting -/
def unesc (c : UInt8) : Option UInt8 := if c = 34 then some 34 else if c = 92 then some 92 else if c = 110 then some 10 else if c = 116 then some 9 else if c = 47 then some 47 else none
def bad3 : List UInt8 × Int × Bool := ([], 0, false)
def unq : List UInt8 → List UInt8 → Int → List UInt8 × Int × Bool
  | [], _, _ => bad3
  | [c], acc, p => if c = 34 then (acc, p + 1, true) else bad3
  | c :: d :: t, acc, p => if c = 34 then (acc, p + 1, true) else if (c.toNat : Int) < 32 ∨ (c.toNat : Int) > 126 then bad3 else if c = 92 then (match unesc d with | some e => unq t (acc ++ [e]) (p + 2) | none => bad3) else unq (d :: t) (acc ++ [c]) (p + 1)
theorem unq_end (c : UInt8) (t acc : List UInt8) (p : Int) (h : c = 34) : unq (c :: t) acc p = (acc, p + 1, true) := by
  cases t <;> simp [unq, h]
theorem unq_bad (c : UInt8) (t acc : List UInt8) (p : Int) (h : (c.toNat : Int) < 32 ∨ (c.toNat : Int) > 126) : unq (c :: t) acc p = bad3 := by
  have h1 : c ≠ 34 := by rintro rfl; revert h; decide
  cases t with
  | nil => simp [unq, h1]
  | cons d t => rw [unq, if_neg h1, if_pos h]
theorem unq_step (c : UInt8) (t acc : List UInt8) (p : Int) (h1 : c ≠ 34) (h2 : ¬ ((c.toNat : Int) < 32 ∨ (c.toNat : Int) > 126)) (h3 : c ≠ 92) : unq (c :: t) acc p = unq t (acc ++ [c]) (p + 1) := by
  cases t with
  | nil => simp [unq, h1]
  | cons d t => rw [unq, if_neg h1, if_neg h2, if_neg h3]
theorem unq_esc (d : UInt8) (t acc : List UInt8) (p : Int) : unq (92 :: d :: t) acc p = (match unesc d with | some e => unq t (acc ++ [e]) (p + 2) | none => bad3) := by
  rw [unq, if_neg (by decide), if_neg (by decide), if_pos rfl]
theorem unq_last (acc : List UInt8) (p : Int) : unq [92] acc p = bad3 := by rw [unq, if_neg (by decide)]
def R3 (r : List UInt8 × Int × Bool) : ByteArray × Int × Bool := (B r.1, r.2.1, r.2.2)
theorem unesc_idx : ∀ c : UInt8, (0 ≤ Lib.indexByte [34, 92, 110, 116, 47] c ∧ Lib.indexByte [34, 92, 110, 116, 47] c < 5 ∧ unesc c = some (UInt8.ofNat (bt (⟨#[34, 92, 10, 9, 47]⟩ : ByteArray) (Lib.indexByte [34, 92, 110, 116, 47] c)).toNat)) ∨ (Lib.indexByte [34, 92, 110, 116, 47] c < 0 ∧ unesc c = none) :=
  all_u8 (by decide +kernel)
theorem text_unq_loop (s : ByteArray) (hs : s.size ≤ 1000000000000) (d : Nat) : ∀ (i : Nat) (acc : List UInt8), s.size ≤ i + d → i ≤ s.size →
    Ev (fun k => text_Unquote.l0 k s (i : Int) acc) (R3 (unq ((L s).drop i) acc (i : Int))) := by
  induction d using Nat.strongRecOn with
  | _ d ih =>
    intro i acc hd hi
    refine evShift ?_
    simp only [text_Unquote.l0]
    by_cases hlt : i < s.size
    · have hl : i < (L s).length := by rw [← L_size]; exact hlt
      have hb := bt_nat s i
      have hg := getD_drop hl
      rw [hg]
      simp only [hb]
      generalize (L s).getD i 0 = c at *
      refine evP (by omega) ?_
      by_cases hr : (c.toNat : Int) < 32 ∨ (c.toNat : Int) > 126
      · rw [unq_bad c _ acc _ hr]
        refine evIf (fun h1 => evN (by omega) (Ev.now _)) (fun _ => Ev.now _)
      · refine evP (by omega) (evP (by omega) (evIf (fun h => ?_) (fun h => evIf (fun h2 => ?_) (fun h2 => ?_))))
        · rw [unq_end c _ acc _ ((u8_int (b := 34)).mp h)]
          exact Ev.now _
        · have e : c = 92 := (u8_int (b := 92)).mp h2
          subst e
          by_cases hlt2 : i + 1 < s.size
          · have hl2 : i + 1 < (L s).length := by rw [← L_size]; exact hlt2
            have hb2 := bt_nat s (i + 1)
            have hg2 := getD_drop hl2
            rw [hg2, unq_esc]
            have hp : text_Unquote.pb s ((i : Int) + 1) = (((L s).getD (i + 1) 0).toNat : Int) := by
              unfold text_Unquote.pb
              rw [if_pos (by omega), show (i : Int) + 1 = ((i + 1 : Nat) : Int) by omega, hb2]
            rw [hp]
            generalize (L s).getD (i + 1) 0 = e at *
            refine evBind (idx_ok _ e) ?_
            rw [show L (⟨#[34, 92, 110, 116, 47]⟩ : ByteArray) = [34, 92, 110, 116, 47] from rfl]
            rcases unesc_idx e with ⟨h3, h4, h5⟩ | ⟨h3, h4⟩
            · rw [h5]
              refine evN (by omega) (evP h4 ?_)
              have hI := ih (d - 2) (by omega) (i + 2) (acc ++ [UInt8.ofNat (bt (⟨#[34, 92, 10, 9, 47]⟩ : ByteArray) (Lib.indexByte [34, 92, 110, 116, 47] e)).toNat]) (by omega) (by omega)
              rw [show (i : Int) + 2 = ((i + 2 : Nat) : Int) by omega]
              exact hI
            · rw [h4]
              exact evP h3 (Ev.now _)
          · have e2 : (L s).drop (i + 1) = [] := List.drop_of_length_le (by rw [← L_size]; omega)
            have hp : text_Unquote.pb s ((i : Int) + 1) = ((0 : UInt8).toNat : Int) := by
              unfold text_Unquote.pb
              rw [if_neg (by omega)]; rfl
            rw [e2, unq_last, hp]
            refine evBind (idx_ok _ 0) (evP (by decide) (Ev.now _))
        · have hI := ih (d - 1) (by omega) (i + 1) (acc ++ [c]) (by omega) (by omega)
          have h3 : c ≠ 34 := fun e => h (by rw [e]; rfl)
          have h4 : c ≠ 92 := fun e => h2 (by rw [e]; rfl)
          rw [unq_step c _ acc _ h3 hr h4, Int.toNat_natCast, UInt8.ofNat_toNat, show (i : Int) + 1 = ((i + 1 : Nat) : Int) by omega]
          exact hI
    · have e : (L s).drop i = [] := List.drop_of_length_le (by rw [← L_size]; omega)
      rw [e]
      exact evN (by omega) (Ev.now _)
def unquote : List UInt8 → List UInt8 × Int × Bool
  | [] => bad3
  | c :: t => if c = 34 then unq t [] 1 else bad3
theorem text_unquote (s : ByteArray) (hs : s.size ≤ 1000000000000) : Ev (fun k => text_Unquote.f k s) (R3 (unquote (L s))) := by
  unfold text_Unquote.f
  refine evP (by omega) (evBind (hasPre s _) ?_)
  rw [show (⟨#[34]⟩ : ByteArray).size = 1 from rfl, show L (⟨#[34]⟩ : ByteArray) = [34] from rfl]
  have hz := L_size s
  cases hL : L s with
  | nil =>
    rw [hL] at hz
    rw [show decide (1 ≤ s.size) = false by rw [hz]; rfl, Bool.false_and]
    exact evN (by decide) (Ev.now _)
  | cons c t =>
    rw [hL, List.length_cons] at hz
    rw [show decide (1 ≤ s.size) = true by rw [hz]; simp, Bool.true_and]
    rw [show unquote (c :: t) = if c = 34 then unq t [] 1 else bad3 from rfl]
    by_cases hc : c = 34
    · rw [if_pos hc, hc]
      refine evP rfl ?_
      have hI := text_unq_loop s hs s.size 1 [] (by omega) (by omega)
      rw [hL, List.drop_succ_cons, List.drop_zero] at hI
      exact hI
    · rw [if_neg hc]
      refine evN ?_ (Ev.now _)
      simpa using hc
theorem unq_flat (l m : List UInt8) (h : ∀ c ∈ l, okI (c.toNat : Int)) : ∀ (acc : List UInt8) (p : Int), unq (l.flatMap esc ++ 34 :: m) acc p = (acc ++ l, p + (l.flatMap esc).length + 1, true) := by
  induction l with
  | nil =>
    intro acc p
    rw [List.flatMap_nil, List.nil_append, unq_end _ _ _ _ rfl, List.append_nil]
    simp
  | cons c l ih =>
    intro acc p
    have hc := h c (by simp)
    have hI := ih (fun d hd => h d (by simp [hd]))
    have two : ∀ d : UInt8, unesc d = some c → esc c = [92, d] → unq ((c :: l).flatMap esc ++ 34 :: m) acc p = (acc ++ c :: l, p + ((c :: l).flatMap esc).length + 1, true) := by
      intro d h1 h2
      rw [List.flatMap_cons, h2]
      simp only [List.cons_append, List.nil_append]
      rw [unq_esc, h1]
      simp only
      rw [hI, List.append_assoc]
      simp only [List.length_cons, List.cons_append, List.nil_append]
      congr 2
      omega
    by_cases h1 : c = 34
    · exact two 34 (by rw [h1]; rfl) (by rw [h1]; rfl)
    · by_cases h2 : c = 92
      · exact two 92 (by rw [h2]; rfl) (by rw [h2]; rfl)
      · by_cases h3 : c = 10
        · exact two 110 (by rw [h3]; rfl) (by rw [h3]; rfl)
        · by_cases h4 : c = 9
          · exact two 116 (by rw [h4]; rfl) (by rw [h4]; rfl)
          · have he : esc c = [c] := by unfold esc; rw [if_neg h1, if_neg h2, if_neg h3, if_neg h4]
            have h5 : ¬ ((c.toNat : Int) < 32 ∨ (c.toNat : Int) > 126) := by
              have h6 : (c.toNat : Int) ≠ 9 := fun e => h4 ((u8_int (b := 9)).mp e)
              have h7 : (c.toNat : Int) ≠ 10 := fun e => h3 ((u8_int (b := 10)).mp e)
              unfold okI at hc
              omega
            rw [List.flatMap_cons, he]
            simp only [List.cons_append, List.nil_append]
            rw [unq_step _ _ _ _ h1 h5 h2, hI, List.append_assoc]
            simp only [List.length_cons, List.cons_append, List.nil_append]
            congr 2
            omega
theorem unquote_quote (l m : List UInt8) (h : ∀ c ∈ l, okI (c.toNat : Int)) : unquote (quote l ++ m) = (l, ((quote l).length : Int), true) := by
  unfold quote
  rw [List.cons_append, List.append_assoc, unquote, if_pos rfl]
  simp only [List.cons_append, List.nil_append]
  rw [unq_flat l m h, List.nil_append]
  simp only [List.length_cons, List.length_append, List.length_nil]
  congr 2
  omega
end Go.Proofs.YtkejnnnedgmhiaaDoor.M
