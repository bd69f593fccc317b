/- Just the bytes 9, 10, 32 to 126 are plain, wherever they stand in a plain text: the pure law of TextBytes. No condition beside the arguments' kinds and the lengths that the reading gives. -/
import Derived.Test.YtkejnnnedgmhiaaDoorXx17
import Derived.Test.YtkejnnnedgmhiaaDoorTQuote
namespace Go.Proofs.YtkejnnnedgmhiaaDoor.Pure
set_option linter.unusedVariables false
set_option linter.unusedSimpArgs false
open Go.RowKit Go.Proofs.YtkejnnnedgmhiaaDoorW.PrintWords Go.Proofs.YtkejnnnedgmhiaaDoor.X Go.Proofs.YtkejnnnedgmhiaaDoor.M
theorem put_all (s : ByteArray) (hO : Okay s) (y : Nat) (a : Int) (h0 : 0 ≤ a) (h1 : a ≤ 255) :
    (L ((s.extract 0 y ++ strOfNums [a]) ++ s.extract y s.size)).all okB = decide (okI a) := by
  have e : L (strOfNums [a]) = [UInt8.ofNat a.toNat] := rfl
  have e2 : okB (UInt8.ofNat a.toNat) = decide (okI a) := by
    unfold okB
    have : ((UInt8.ofNat a.toNat).toNat : Int) = a := by rw [UInt8.toNat_ofNat']; omega
    rw [this]
  have hA := okay_all hO
  have h2 : (L s).all okB = (((L s).take y).all okB && ((L s).drop y).all okB) := by rw [← List.all_append, List.take_append_drop]
  rw [h2, Bool.and_eq_true] at hA
  rw [L_append, L_append, L_take, L_drop, e, List.all_append, List.all_append, hA.1, hA.2, List.all_cons, List.all_nil, e2]
  simp
theorem TextBytes : transhumancelaw1_TextBytes.Pure := by
  intro a l1 at_ hwa hmax hsz hwf h1
  have ha : 0 ≤ a ∧ a ≤ 255 := by
    have h2 : IntKind.u8.min ≤ a ∧ a ≤ IntKind.u8.max := by simpa [Lit.wf] using hwa
    have e1 : IntKind.u8.min = 0 := rfl
    have e2 : IntKind.u8.max = 255 := rfl
    omega
  have h : Ev (fun k => transhumancelaw1_TextBytes.f k a l1 at_) true := by
    unfold transhumancelaw1_TextBytes.f
    refine Ev.bind known_ev (evP rfl (evIf (fun _ => Ev.now _) (fun hl => ?_)))
    obtain ⟨s, hE, z1, z2, hO⟩ := plain_ev l1 60 (by omega) (by omega)
    obtain ⟨y, hy, y0, y1⟩ := twithin_ok at_ ((s.size : Int) + 1) (by omega) (by omega)
    have hs1 : (strOfNums [a]).size = 1 := strOfNums_size _
    have hx1 : (s.extract 0 y.toNat).size ≤ s.size := by rw [L_size, L_take, L_size, List.length_take]; omega
    have hx2 : (s.extract y.toNat s.size).size ≤ s.size := by rw [L_size, L_drop, L_size, List.length_drop]; omega
    have hall := put_all s hO y.toNat a ha.1 ha.2
    have ho := okI_iff a
    have hA := okay_all hO
    have hP := text_all s (by omega)
    rw [hA] at hP
    refine Ev.bind hE ?_
    rw [wrap64_id (show -9223372036854775808 ≤ ((s.size : Int) + 1) by omega) (by omega)]
    refine evBind hy ?_
    have hT : Ev (fun k => text_Plain.f k ((s.extract 0 y.toNat ++ strOfNums [a]) ++ s.extract y.toNat s.size)) (decide (okI a)) := by
      rw [← hall]
      exact text_all _ (by rw [ByteArray.size_append, ByteArray.size_append]; omega)
    refine evIf (fun h2 => ?_) (fun h2 => evIf (fun h3 => ?_) (fun h3 => evIf (fun h4 => ?_) (fun h4 => ?_)))
    · refine evP y0 (evP (by omega) (evBind rfl (evP (by omega) (evP (by omega) (Ev.bind hT (evP ?_ (Ev.bind hP (Ev.now _))))))))
      rw [decide_eq_true (ho.mpr (by omega))]; rfl
    · refine evP y0 (evP (by omega) (evBind rfl (evP (by omega) (evP (by omega) (Ev.bind hT (evP ?_ (Ev.bind hP (Ev.now _))))))))
      rw [decide_eq_true (ho.mpr (by omega))]; rfl
    · refine evP y0 (evP (by omega) (evBind rfl (evP (by omega) (evP (by omega) (Ev.bind hT (evP ?_ (Ev.bind hP (Ev.now _))))))))
      rw [beq_iff_eq]
      exact decide_eq_decide.mpr (by rw [ho]; omega)
    · refine evP y0 (evP (by omega) (evBind rfl (evP (by omega) (evP (by omega) (Ev.bind hT (evP ?_ (Ev.bind hP (Ev.now _))))))))
      rw [decide_eq_false (by rw [ho]; omega)]; rfl
  exact h.rounds
end Go.Proofs.YtkejnnnedgmhiaaDoor.Pure
