/- Sorted texts, each once: what the program's and the document's Sorted, Texts compute, in plain Lean. Conditions: sizes as stated. -/
import Derived.Test.YtkejnnnedgmhiaaDoorXx13
import Derived.Test.YtkejnnnedgmhiaaDoorXs14
import Derived.Test.YtkejnnnedgmhiaaDoorXx4
import Derived.Test.YtkejnnnedgmhiaaDoorTText
import Derived.Test.YtkejnnnedgmhiaaDoorBytes
import Derived.Lib.SlicesCompact
import Derived.Sort.Walk0
namespace Go.Proofs.YtkejnnnedgmhiaaDoor.M
set_option linter.unusedVariables false
set_option linter.unusedSimpArgs false
open Go.RowKit Go.Proofs.YtkejnnnedgmhiaaDoorW.PrintWords Go.Proofs.YtkejnnnedgmhiaaDoor.X
def lt (a b : ByteArray) : Prop := Op.bytesLess (L a) (L b) = true
theorem lt_irrefl (a : ByteArray) : ¬ lt a a := bl_irrefl _
theorem lt_trans {a b c : ByteArray} (h1 : lt a b) (h2 : lt b c) : lt a c := bl_trans h1 h2
theorem lt_total (a b : ByteArray) : a = b ∨ lt a b ∨ lt b a := by
  rcases bl_total (L a) (L b) with h | h
  · exact .inl (L_inj h)
  · exact .inr h
/-- Rising, of the members p. -/
def Rise (l : List ByteArray) (p : ByteArray → Prop) : Prop := l.Pairwise lt ∧ ∀ x, x ∈ l ↔ p x
theorem rise_one {a b : List ByteArray} : ∀ {p : ByteArray → Prop}, Rise a p → Rise b p → a = b := by
  induction a generalizing b with
  | nil =>
    intro p h1 h2
    rcases b with _ | ⟨y, b⟩
    · rfl
    · exact absurd ((h1.2 y).mpr ((h2.2 y).mp (by simp))) (by simp)
  | cons x a ih =>
    intro p h1 h2
    rcases b with _ | ⟨y, b⟩
    · exact absurd ((h2.2 x).mpr ((h1.2 x).mp (by simp))) (by simp)
    · have ha := List.pairwise_cons.mp h1.1
      have hb := List.pairwise_cons.mp h2.1
      have e : x = y := by
        have m1 := (h2.2 x).mpr ((h1.2 x).mp (by simp))
        have m2 := (h1.2 y).mpr ((h2.2 y).mp (by simp))
        rcases List.mem_cons.mp m1 with e | m1
        · exact e
        · rcases List.mem_cons.mp m2 with e | m2
          · exact e.symm
          · exact absurd (lt_trans (ha.1 y m2) (hb.1 x m1)) (lt_irrefl x)
      subst e
      congr 1
      refine ih (p := fun z => p z ∧ z ≠ x) ⟨ha.2, fun z => ⟨fun hz => ⟨(h1.2 z).mp (by simp [hz]), fun e => lt_irrefl x (by have := ha.1 z hz; rwa [e] at this)⟩, fun hz => ?_⟩⟩ ⟨hb.2, fun z => ⟨fun hz => ⟨(h2.2 z).mp (by simp [hz]), fun e => lt_irrefl x (by have := hb.1 z hz; rwa [e] at this)⟩, fun hz => ?_⟩⟩
      · rcases List.mem_cons.mp ((h1.2 z).mpr hz.1) with e | m
        · exact absurd e hz.2
        · exact m
      · rcases List.mem_cons.mp ((h2.2 z).mpr hz.1) with e | m
        · exact absurd e hz.2
        · exact m

/-! ### the program's -/
theorem le_iff (x y : List UInt8) : decide (x ≤ y) = true ↔ ¬ Op.bytesLess y x = true := by
  rw [Go.Proofs.bytesLess_eq, decide_eq_true_iff, decide_eq_true_iff]
  exact Iff.rfl
theorem ms_pair (l : List (List UInt8)) : (l.mergeSort fun x y => decide (x ≤ y)).Pairwise (fun x y => ¬ Op.bytesLess y x = true) := by
  have h := List.pairwise_mergeSort (le := fun x y => decide (x ≤ y)) (fun a b c h1 h2 => by
    rw [le_iff] at h1 h2 ⊢
    intro h3
    rcases bl_total a b with e | e | e
    · subst e; exact h2 h3
    · rcases bl_total b c with e2 | e2 | e2
      · subst e2; exact h1 h3
      · exact bl_irrefl a (bl_trans (bl_trans e e2) h3)
      · exact h2 e2
    · exact h1 e) (fun a b => by
    rw [Bool.or_eq_true, le_iff, le_iff]
    by_cases h : Op.bytesLess b a = true
    · exact .inr (fun h2 => bl_irrefl a (bl_trans h2 h))
    · exact .inl h) l
  exact h.imp (fun h1 => (le_iff _ _).mp h1)
theorem compactUpTo_rise (zs : List (List UInt8)) (hs : zs.Pairwise (fun x y => ¬ Op.bytesLess y x = true)) : ∀ m : Nat, m ≤ zs.length →
    (Lib.compactUpTo zs.toArray m).Pairwise (fun x y => Op.bytesLess x y = true) ∧ (∀ x, x ∈ Lib.compactUpTo zs.toArray m ↔ x ∈ zs.take m) ∧ (∀ x ∈ Lib.compactUpTo zs.toArray m, ∀ i, m = i + 1 → x = zs.getD i [] ∨ Op.bytesLess x (zs.getD i []) = true)
  | 0, _ => by
    refine ⟨by simp [Lib.compactUpTo], fun x => by simp [Lib.compactUpTo], fun x hx => by simp [Lib.compactUpTo] at hx⟩
  | m + 1, hm => by
    obtain ⟨h1, h2, h3⟩ := compactUpTo_rise zs hs m (by omega)
    have hg : ∀ i, i < zs.length → zs.toArray[i]! = zs.getD i [] := by
      intro i hi
      rw [getElem!_pos _ _ (by simpa using hi), List.getD_eq_getElem?_getD, List.getElem?_eq_getElem hi]
      simp
    have ht : zs.take (m + 1) = zs.take m ++ [zs.getD m []] := by
      rw [List.take_succ_eq_append_getElem (by omega), List.getD_eq_getElem?_getD, List.getElem?_eq_getElem (by omega)]; rfl
    have hle : ∀ x ∈ Lib.compactUpTo zs.toArray m, ¬ Op.bytesLess (zs.getD m []) x = true := by
      intro x hx
      obtain ⟨i, hi, e⟩ := List.getElem_of_mem ((h2 x).mp hx)
      rw [List.length_take] at hi
      rw [List.getElem_take] at e
      have := (List.pairwise_iff_getElem.mp hs) i m (by omega) (by omega) (by omega)
      rw [e] at this
      rw [List.getD_eq_getElem?_getD, List.getElem?_eq_getElem (by omega)]
      exact this
    rw [Lib.compactUpTo_succ]
    by_cases hk : Lib.keeps zs.toArray m = true
    · rw [if_pos hk, hg m (by omega)]
      have hlt : ∀ x ∈ Lib.compactUpTo zs.toArray m, Op.bytesLess x (zs.getD m []) = true := by
        intro x hx
        rcases bl_total x (zs.getD m []) with e | e | e
        · exfalso
          unfold Lib.keeps at hk
          rw [decide_eq_true_iff] at hk
          rcases hk with hk | hk
          · subst hk
            simp [Lib.compactUpTo] at hx
          · obtain ⟨i, rfl⟩ : ∃ i, m = i + 1 := ⟨m - 1, by
              rcases m with _ | m
              · simp [Lib.compactUpTo] at hx
              · omega⟩
            rw [hg _ (by omega), Nat.add_sub_cancel, hg i (by omega)] at hk
            have hsi := (List.pairwise_iff_getElem.mp hs) i (i + 1) (by omega) (by omega) (by omega)
            have e1 : zs[i] = zs.getD i [] := by rw [List.getD_eq_getElem?_getD, List.getElem?_eq_getElem (by omega)]; rfl
            have e2 : zs[i + 1] = zs.getD (i + 1) [] := by rw [List.getD_eq_getElem?_getD, List.getElem?_eq_getElem (by omega)]; rfl
            rw [e1, e2] at hsi
            rcases h3 x hx i rfl with e3 | e3
            · exact hk (e.symm.trans e3)
            · rw [e] at e3
              exact hsi e3
        · exact e
        · exact absurd e (hle x hx)
      refine ⟨?_, fun x => ?_, fun x hx i hi => ?_⟩
      · rw [List.pairwise_append]
        exact ⟨h1, by simp, fun a ha b hb => by rw [List.mem_singleton] at hb; subst hb; exact hlt a ha⟩
      · rw [ht, List.mem_append, List.mem_append, h2]
      · have : i = m := by omega
        subst this
        rcases List.mem_append.mp hx with hx | hx
        · exact .inr (hlt x hx)
        · exact .inl (List.mem_singleton.mp hx)
    · rw [if_neg hk, List.append_nil]
      have hk2 : ¬ (m = 0 ∨ zs.toArray[m]! ≠ zs.toArray[m - 1]!) := by
        unfold Lib.keeps at hk
        rwa [decide_eq_true_iff] at hk
      obtain ⟨i, rfl⟩ : ∃ i, m = i + 1 := ⟨m - 1, by omega⟩
      have e : zs.getD (i + 1) [] = zs.getD i [] := by
        have h4 : zs.toArray[i + 1]! = zs.toArray[i + 1 - 1]! := Classical.byContradiction (fun h => hk2 (.inr h))
        rw [hg _ (by omega), Nat.add_sub_cancel, hg i (by omega)] at h4
        exact h4
      refine ⟨h1, fun x => ?_, fun x hx j hj => ?_⟩
      · rw [ht, List.mem_append, h2, List.mem_singleton, e]
        have hm2 : zs.getD i [] ∈ zs.take (i + 1) := by
          rw [List.take_succ_eq_append_getElem (show i < zs.length by omega), List.getD_eq_getElem?_getD, List.getElem?_eq_getElem (by omega)]
          exact List.mem_append_right _ (List.mem_singleton.mpr rfl)
        exact ⟨fun h => .inl h, fun h => h.elim id (fun h => by rw [h]; exact hm2)⟩
      · have : j = i + 1 := by omega
        subst this
        rw [e]
        exact h3 x hx i rfl
theorem compact_rise (zs : List (List UInt8)) (hs : zs.Pairwise (fun x y => ¬ Op.bytesLess y x = true)) :
    (Lib.compact zs).Pairwise (fun x y => Op.bytesLess x y = true) ∧ ∀ x, x ∈ Lib.compact zs ↔ x ∈ zs := by
  obtain ⟨h1, h2, _⟩ := compactUpTo_rise zs hs zs.length (Nat.le_refl _)
  refine ⟨h1, fun x => ?_⟩
  unfold Lib.compact
  rw [h2, List.take_length]
theorem text_sorted_ok (l : List ByteArray) (hl : l.length ≤ 1000) : ∃ r, text_Sorted.f l = some r ∧ Rise r (fun x => x ∈ l) ∧ r.length ≤ 1000 := by
  obtain ⟨h1, h2⟩ := compact_rise _ (ms_pair (l.map (·.data.toList)))
  have e : ∀ x : List UInt8, (⟨x.toArray⟩ : ByteArray) = B x := fun _ => rfl
  refine ⟨(text_Sorted.srt l).map fun x => (⟨x.toArray⟩ : ByteArray), ?_, ⟨?_, fun x => ?_⟩, ?_⟩
  · unfold text_Sorted.f
    rw [if_pos (by omega)]
  · rw [List.pairwise_map]
    refine h1.imp ?_
    intro a b hab
    show Op.bytesLess (L (B a)) (L (B b)) = true
    rw [L_B, L_B]
    exact hab
  · rw [List.mem_map]
    constructor
    · rintro ⟨y, hy, rfl⟩
      have := (h2 y).mp hy
      rw [List.mem_mergeSort, List.mem_map] at this
      obtain ⟨z, hz, rfl⟩ := this
      have e : (⟨z.data.toList.toArray⟩ : ByteArray) = z := B_L z
      rw [e]
      exact hz
    · intro hx
      refine ⟨L x, (h2 _).mpr ?_, B_L x⟩
      rw [List.mem_mergeSort, List.mem_map]
      exact ⟨x, hx, rfl⟩
  · rw [List.length_map]
    have := Lib.compact_length_le ((l.map (·.data.toList)).mergeSort fun x y => decide (x ≤ y))
    rw [List.length_mergeSort, List.length_map] at this
    unfold text_Sorted.srt
    omega

/-! ### the document's -/
theorem rd_at (l : List ByteArray) (i : Nat) (h : i < l.length) : rdOf ByteArray.empty l (i : Int) = l[i] := by
  rw [rdOf_nat, List.getD_eq_getElem?_getD, List.getElem?_eq_getElem h]; rfl
def Good (l : List ByteArray) (i : Nat) (out : List ByteArray) : Prop := Rise out (fun x => x ∈ l.take i) ∧ out.length ≤ i
theorem good_put {l out : List ByteArray} {i p : Nat} (hi : i < l.length) (hG : Good l i out) (hp : p ≤ out.length) (hup : ∀ j (h : j < out.length), p ≤ j → lt l[i] out[j]) (hlo : ∀ j (h : j < out.length), j < p → lt out[j] l[i]) :
    Good l (i + 1) (out.take p ++ [l[i]] ++ out.drop p) := by
  obtain ⟨⟨h1, h2⟩, h3⟩ := hG
  have hta : ∀ x ∈ out.take p, lt x l[i] := by
    intro x hx
    obtain ⟨j, hj, rfl⟩ := List.getElem_of_mem hx
    rw [List.length_take] at hj
    rw [List.getElem_take]
    exact hlo j (by omega) (by omega)
  have hdr : ∀ x ∈ out.drop p, lt l[i] x := by
    intro x hx
    obtain ⟨j, hj, rfl⟩ := List.getElem_of_mem hx
    rw [List.length_drop] at hj
    rw [List.getElem_drop]
    exact hup (p + j) (by omega) (by omega)
  refine ⟨⟨?_, fun x => ?_⟩, ?_⟩
  · rw [List.append_assoc, List.pairwise_append, List.pairwise_append]
    refine ⟨h1.sublist (List.take_sublist _ _), ⟨by simp, h1.sublist (List.drop_sublist _ _), fun a ha b hb => by rw [List.mem_singleton] at ha; subst ha; exact hdr b hb⟩, fun a ha b hb => ?_⟩
    rcases List.mem_append.mp hb with hb | hb
    · rw [List.mem_singleton] at hb; subst hb; exact hta a ha
    · exact lt_trans (hta a ha) (hdr b hb)
  · have h2x : x ∈ out ↔ x ∈ l.take i := h2 x
    show _ ↔ x ∈ l.take (i + 1)
    rw [List.take_succ_eq_append_getElem hi, List.mem_append, List.mem_append, List.mem_append, ← h2x]
    have : x ∈ out ↔ (x ∈ out.take p ∨ x ∈ out.drop p) := by rw [← List.mem_append, List.take_append_drop]
    rw [this]
    constructor
    · rintro ((h | h) | h)
      · exact .inl (.inl h)
      · exact .inr h
      · exact .inl (.inr h)
    · rintro ((h | h) | h)
      · exact .inl (.inl h)
      · exact .inr h
      · exact .inl (.inr h)
  · simp only [List.length_append, List.length_take, List.length_drop, List.length_singleton]
    omega
theorem good_same {l out : List ByteArray} {i : Nat} (hi : i < l.length) (hG : Good l i out) (hm : l[i] ∈ out) : Good l (i + 1) out := by
  obtain ⟨⟨h1, h2⟩, h3⟩ := hG
  refine ⟨⟨h1, fun x => ?_⟩, by omega⟩
  have h2x : x ∈ out ↔ x ∈ l.take i := h2 x
  show _ ↔ x ∈ l.take (i + 1)
  rw [List.take_succ_eq_append_getElem hi, List.mem_append, ← h2x, List.mem_singleton]
  exact ⟨fun h => .inl h, fun h => h.elim id (fun e => by rw [e]; exact hm)⟩
theorem ref_sorted_loop (l : List ByteArray) (hl : l.length ≤ 1000) (d : Nat) : ∀ (i : Nat) (out : List ByteArray), i + d = l.length → Good l i out →
    ∃ r, Ev (fun k => transhumanceref1_Sorted.l0 k l out (i : Int)) r ∧ Good l l.length r := by
  induction d with
  | zero =>
    intro i out hi hG
    have e : i = l.length := by omega
    subst e
    refine ⟨out, ?_, hG⟩
    refine evShift ?_
    simp only [transhumanceref1_Sorted.l0]
    exact evN (by omega) (Ev.now _)
  | succ d ih =>
    intro i out hi hG
    have hil : i < l.length := by omega
    have hw : wrap64 ((i : Int) + 1) = ((i + 1 : Nat) : Int) := by rw [wrap64_id (by omega) (by omega)]; omega
    have hlen := hG.2
    have hput : ∀ p : Nat, p ≤ out.length → (∀ j (h : j < out.length), p ≤ j → lt l[i] out[j]) → (∀ j (h : j < out.length), j < p → lt out[j] l[i]) →
        (∃ r, Ev (fun k => transhumanceref1_Sorted.j2 k l out (i : Int) (p : Int) true) r ∧ Good l l.length r) ∧ (∃ r, Ev (fun k => transhumanceref1_Sorted.j3 k l out (i : Int) (p : Int) true) r ∧ Good l l.length r) := by
      intro p hp hup hlo
      obtain ⟨r, hE, hR⟩ := ih (i + 1) _ (by omega) (good_put hil hG hp hup hlo)
      have hlt : (out.take p).length = p := by rw [List.length_take]; omega
      have hld : (out.drop p).length = out.length - p := List.length_drop
      constructor
      · refine ⟨r, ?_, hR⟩
        refine evShift ?_
        simp only [transhumanceref1_Sorted.j2, Int.toNat_natCast, hw, rd_at l i hil, List.nil_append]
        refine evP (by trivial) (evBind rfl (evP (by omega) (evP (by omega) (evBind rfl (evP (by simp only [List.length_append, List.length_nil, hlt, List.length_singleton]; omega) (evBind rfl (evP (by omega) (evP (by omega) (evBind rfl (evP (by simp only [List.length_append, List.length_nil, hlt, List.length_singleton]; omega) (evBind rfl (evBind rfl (evP ?_ hE)))))))))))))
        simp only [List.length_append, List.length_nil, hlt, hld, List.length_singleton]
        omega
      · refine ⟨r, ?_, hR⟩
        refine evShift ?_
        simp only [transhumanceref1_Sorted.j3, Int.toNat_natCast, hw, rd_at l i hil, List.nil_append]
        refine evP (by trivial) (evBind rfl (evP (by omega) (evP (by omega) (evBind rfl (evP (by simp only [List.length_append, List.length_nil, hlt, List.length_singleton]; omega) (evBind rfl (evP (by omega) (evP (by omega) (evBind rfl (evP (by simp only [List.length_append, List.length_nil, hlt, List.length_singleton]; omega) (evBind rfl (evBind rfl (evP ?_ hE)))))))))))))
        simp only [List.length_append, List.length_nil, hlt, hld, List.length_singleton]
        omega
    have hin : ∀ p : Nat, p ≤ out.length → (∀ j (h : j < out.length), p ≤ j → lt l[i] out[j]) → ∃ r, Ev (fun k => transhumanceref1_Sorted.l1 k l out (i : Int) (p : Int)) r ∧ Good l l.length r := by
      intro p
      induction p with
      | zero =>
        intro hp hup
        obtain ⟨r, hE, hR⟩ := (hput 0 hp hup (fun j _ h => absurd h (by omega))).2
        refine ⟨r, ?_, hR⟩
        refine evShift ?_
        simp only [transhumanceref1_Sorted.l1]
        exact evN (by omega) (evP rfl hE)
      | succ p ihp =>
        intro hp hup
        have hwp : wrap64 (((p + 1 : Nat) : Int) - 1) = (p : Int) := by rw [wrap64_id (by omega) (by omega)]; omega
        have hpl : p < out.length := by omega
        by_cases hlt : lt l[i] out[p]
        · obtain ⟨r, hE, hR⟩ := ihp (by omega) (fun j h hj => by
            by_cases e : j = p
            · subst e; exact hlt
            · exact hup j h (by omega))
          refine ⟨r, ?_, hR⟩
          refine evShift ?_
          simp only [transhumanceref1_Sorted.l1, hwp, rd_at l i hil, rd_at out p hpl, L_toList]
          exact evP (by omega) (evP (by omega) (evP (by omega) (evP (by omega) (evP (by omega) (evP hlt hE)))))
        · by_cases heq : out[p] = l[i]
          · obtain ⟨r, hE, hR⟩ := ih (i + 1) out (by omega) (good_same hil hG (by rw [← heq]; exact List.getElem_mem hpl))
            refine ⟨r, ?_, hR⟩
            refine evShift ?_
            simp only [transhumanceref1_Sorted.l1, hwp, rd_at l i hil, rd_at out p hpl, L_toList]
            refine evP (by omega) (evP (by omega) (evP (by omega) (evP (by omega) (evP (by omega) (evN hlt (evN (by omega) (evShift ?_)))))))
            simp only [transhumanceref1_Sorted.j2, hw, heq, bne_self_eq_false]
            exact evN (by decide) hE
          · have hlo : lt out[p] l[i] := by
              rcases lt_total out[p] l[i] with e | e | e
              · exact absurd e heq
              · exact e
              · exact absurd e hlt
            obtain ⟨r, hE, hR⟩ := (hput (p + 1) hp hup (fun j h hj => by
              by_cases e : j = p
              · subst e; exact hlo
              · exact lt_trans ((List.pairwise_iff_getElem.mp hG.1.1) j p h hpl (by omega)) hlo)).1
            refine ⟨r, ?_, hR⟩
            refine evShift ?_
            simp only [transhumanceref1_Sorted.l1, hwp, rd_at l i hil, rd_at out p hpl, L_toList]
            have hne : (L out[p] != L l[i]) = true := by
              rw [bne_iff_ne]
              exact fun e => heq (L_inj e)
            rw [hne]
            exact evP (by omega) (evP (by omega) (evP (by omega) (evP (by omega) (evP (by omega) (evN hlt (evN (by omega) hE))))))
    obtain ⟨r, hE, hR⟩ := hin out.length (Nat.le_refl _) (fun j h hj => absurd hj (by omega))
    refine ⟨r, ?_, hR⟩
    refine evShift ?_
    simp only [transhumanceref1_Sorted.l0]
    exact evP (by omega) hE
theorem ref_sorted_ok (l : List ByteArray) (hl : l.length ≤ 1000) : ∃ r, Ev (fun k => transhumanceref1_Sorted.f k l) r ∧ Rise r (fun x => x ∈ l) := by
  obtain ⟨r, hE, hR⟩ := ref_sorted_loop l hl l.length 0 [] (by omega) ⟨⟨by simp, fun x => by simp⟩, by simp⟩
  refine ⟨r, ?_, ?_⟩
  · unfold transhumanceref1_Sorted.f
    exact hE
  · have := hR.1
    rwa [List.take_length] at this
theorem texts_same (a : List ByteArray) (ha : a.length ≤ 4611686018427387) : Ev (fun k => transhumanceref1_Texts.f k a a) true := by
  have hloop : ∀ (d i : Nat), i + d = a.length → Ev (fun k => transhumanceref1_Texts.l0 k a a (i : Int)) true := by
    intro d
    induction d with
    | zero =>
      intro i hi
      refine evShift ?_
      simp only [transhumanceref1_Texts.l0]
      exact evN (by omega) (Ev.now _)
    | succ d ih =>
      intro i hi
      have hw : wrap64 ((i : Int) + 1) = ((i + 1 : Nat) : Int) := by rw [wrap64_id (by omega) (by omega)]; omega
      refine evShift ?_
      simp only [transhumanceref1_Texts.l0, hw]
      exact evP (by omega) (evP (by omega) (evP (by omega) (evP (by trivial) (ih (i + 1) (by omega)))))
  unfold transhumanceref1_Texts.f
  exact evP rfl (hloop a.length 0 (by omega))
end Go.Proofs.YtkejnnnedgmhiaaDoor.M
