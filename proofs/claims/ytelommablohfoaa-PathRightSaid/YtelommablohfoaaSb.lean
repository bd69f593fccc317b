/- []byte(s) of a text: the row that it makes, read, stored into, turned back. No condition. -/
import Derived.Test.YtelommablohfoaaWMore
import Derived.Test.YtelommablohfoaaWN
import Derived.Lib.ConvBytes
import Derived.Laws.OwnMore
import Derived.Lib.BufferWrite
namespace Go.Proofs.Ytelommablohfoaa.X
open Go.RowKit Go.Proofs.YtelommablohfoaaW.PrintWords Go.Proofs.YtelommablohfoaaW.PrintLast Go.Proofs.YtelommablohfoaaW.PrintMore
def bytesI (s : ByteArray) : List Int := s.data.toList.map fun b => (b.toNat : Int)
namespace Kb
/-- A row of bytes that is this call's own; what lies behind its capacity may be marked. -/
def R (e : Nat) (W : World) (base : Nat) (_ok : Nat → Prop) (v : Value) (xs : List Int) : Prop :=
  ∃ g cap cur fr, v = .slice (some ⟨g, 0, none⟩) xs.length cap ∧ base ≤ g ∧ W.heap[g]? = some (.cells cur e fr) ∧ xs.length ≤ cap ∧ xs.length ≤ fr.1 ∧ ∀ j, j < xs.length → cur[j]? = some (.int .u8 (xs.getD j 0))
section
variable {e : Nat} {W w1 : World} {base : Nat} {ok : Nat → Prop} {v : Value} {xs : List Int}
theorem R_lower {base' : Nat} (h : R e W base ok v xs) (hb : base' ≤ base) : R e W base' ok v xs := by
  obtain ⟨g, cap, cur, fr, h1, h2, h3⟩ := h
  exact ⟨g, cap, cur, fr, h1, Nat.le_trans hb h2, h3⟩
theorem R_below (h : R e W base ok v xs) (hb : Below W.heap.size W w1) : R e w1 base ok v xs := by
  obtain ⟨g, cap, cur, fr, h1, h2, h3, h4⟩ := h
  exact ⟨g, cap, cur, fr, h1, h2, (hb.block g (blk_lt h3)).trans h3, h4⟩
theorem R_alloc (h : R e W base ok v xs) (o : Obj) : R e (W.alloc o) base ok v xs := R_below h (below_alloc (Below.refl _ _) o)
theorem R_drewN (h : R e W base ok v xs) (m : Nat) : R e (W.drewN m) base ok v xs := R_below h (pw_below_drewN (Below.refl _ _) m)
theorem R_drew (h : R e W base ok v xs) : R e W.drew base ok v xs := R_below h (below_drew1 (Below.refl _ _))
theorem R_slice (h : R e W base ok v xs) : ∃ A c, v = .slice A xs.length c := by
  obtain ⟨g, cap, cur, fr, h1, _⟩ := h
  exact ⟨_, _, h1⟩
theorem R_form (h : R e W base ok v xs) (_hp : 0 < xs.length) : ∃ g cap, v = .slice (some ⟨g, 0, none⟩) xs.length cap ∧ base ≤ g ∧ g < W.heap.size ∧ ∃ cells fr, W.heap[g]? = some (.cells cells e fr) := by
  obtain ⟨g, cap, cur, fr, h1, h2, h3, _⟩ := h
  exact ⟨g, cap, h1, h2, blk_lt h3, cur, fr, h3⟩
theorem R_at {g cap n : Nat} (h : R e W base ok (.slice (some ⟨g, 0, none⟩) n cap) xs) : n = xs.length ∧ base ≤ g ∧ ∃ cur fr, W.heap[g]? = some (.cells cur e fr) ∧ xs.length ≤ cap ∧ xs.length ≤ fr.1 ∧ ∀ j, j < xs.length → cur[j]? = some (.int .u8 (xs.getD j 0)) := by
  obtain ⟨g', cap', cur, fr, h1, h2, h3, h4, h5, h6⟩ := h
  injection h1 with a1 a2 a3
  injection a1 with a1
  injection a1 with a1
  subst a1
  subst a3
  exact ⟨a2, h2, cur, fr, h3, h4, h5, h6⟩
theorem R_celln (_d : Int) {g cap n : Nat} (h : R e W base ok (.slice (some ⟨g, 0, none⟩) n cap) xs) (i : Int) (h0 : 0 ≤ i) (hi : i < n) : W.cell? ⟨g, i.toNat, none⟩ = some (.int .u8 (rd xs i)) ∧ W.frozen? ⟨g, i.toNat, none⟩ = false := by
  obtain ⟨rfl, _, cur, fr, h3, _, h5, h6⟩ := R_at h
  have hlt : i.toNat < xs.length := by omega
  refine ⟨?_, ?_⟩
  · rw [cell_of_row W g _ cur e fr h3, h6 _ hlt]
    rfl
  · obtain ⟨lo, hi2⟩ := fr
    simp only [World.frozen?, h3]
    simp only at h5
    rw [Bool.and_eq_false_iff]
    left
    rw [decide_eq_false_iff_not]
    omega
theorem at_int {A : Option Addr} {n c : Nat} (h : R e W base ok (.slice A n c) xs) (i : Int) (h0 : 0 ≤ i) (h1 : i < n) : ∃ ad, A = some ad ∧ W.cell? (ad.add i.toNat) = some (.int .u8 (rd xs i)) := by
  obtain ⟨g, cap, cur, fr, e1, _⟩ := id h
  injection e1 with a1 a2 a3
  subst a1
  refine ⟨_, rfl, ?_⟩
  rw [add_plain]
  exact (R_celln 0 h i h0 h1).1
theorem R_putg {g cap n : Nat} (h : R e W base ok (.slice (some ⟨g, 0, none⟩) n cap) xs) (i : Int) (x : Int) :
    R e (W.setCell ⟨g, i.toNat, none⟩ (.int .u8 x)) base ok (.slice (some ⟨g, 0, none⟩) n cap) (xs.set i.toNat x) ∧ W.grownBy (W.setCell ⟨g, i.toNat, none⟩ (.int .u8 x)) (some g) := by
  obtain ⟨rfl, h2, cur, fr, h3, h4, h5, h6⟩ := R_at h
  refine ⟨⟨g, cap, cur.setIfInBounds i.toNat (.int .u8 x), fr, by rw [List.length_set], h2, ?_, by rw [List.length_set]; exact h4, by rw [List.length_set]; exact h5, fun j hj => ?_⟩, ?_⟩
  · simp [World.setCell, Array.getElem?_modify, h3]
  · rw [List.length_set] at hj
    have hsz : j < cur.size := (Array.getElem?_eq_some_iff.1 (h6 j hj)).1
    rw [Array.getElem?_setIfInBounds, List.getD_eq_getElem?_getD, List.getElem?_set]
    by_cases e1 : i.toNat = j
    · rw [if_pos e1, if_pos e1, if_pos (by omega), if_pos (by omega)]; rfl
    · rw [if_neg e1, if_neg e1, ← List.getD_eq_getElem?_getD]; exact h6 j hj
  · exact Lib.grownBy_setCell W g i.toNat _
theorem string_of {P : Program} {src dst : Nat} (hs : P.underlying src = some (.slice e)) (he : P.underlying e = some (.int .u8)) (hd : P.underlying dst = some .string) (h : R e W base ok v xs) : (convert src dst v).run P W = .ok (.string (strOfNums xs)) W := by
  obtain ⟨g, cap, cur, fr, rfl, _, h3, _, _, h6⟩ := h
  refine run_convert_bytes_arg W src e hs he g 0 xs.length cap xs rfl (fun i hi => ?_) dst hd
  rw [Nat.zero_add, cell_of_row W g _ cur e fr h3]
  exact h6 i hi
theorem bytes_below (w : World) (e : Nat) (s : ByteArray) : Below w.heap.size w (Lib.bytesWorld w e s) :=
  ⟨rfl, rfl, rfl, by rw [Lib.bytesWorld_size]; omega, fun k hk => Lib.bytesWorld_at_old w e s k hk⟩
theorem bytes_row (w : World) (e : Nat) (s : ByteArray) : R e (Lib.bytesWorld w e s) w.heap.size (fun _ => True) (.slice (some ⟨w.heap.size, 0, none⟩) s.size (grownCap w s.size 0 e)) (bytesI s) := by
  have hl : (bytesI s).length = s.size := by unfold bytesI; rw [List.length_map, Array.length_toList]; rfl
  have hn := Lib.bytesWorld_at_new w e s
  have hge := grownCap_ge w s.size 0 e
  have hz : (Lib.bytesCells w e s).size = grownCap w s.size 0 e := by
    have e1 : s.data.size = s.size := rfl
    unfold Lib.bytesCells
    rw [Array.size_append, Array.size_map, Array.size_replicate]
    omega
  refine ⟨w.heap.size, grownCap w s.size 0 e, Lib.bytesCells w e s, _, by rw [hl], Nat.le_refl _, hn, by omega, by rw [hl]; show s.size ≤ (Lib.bytesCells w e s).size; omega, fun j hj => ?_⟩
  have hc := Lib.bytesWorld_cell w e s j (by omega)
  rw [cell_of_row _ _ _ _ _ _ hn] at hc
  rw [hc]
  have : ((bytesI s).getD j 0) = ((s.data.toList.getD j 0).toNat : Int) := by
    have hj2 : j < s.data.toList.length := by rw [hl] at hj; simpa using hj
    simp only [bytesI, List.getD_eq_getElem?_getD, List.getElem?_map, List.getElem?_eq_getElem hj2]
    rfl
  rw [this]
end
section
variable {P : Program} {ops : Array Oper} {rest : List Oper} {o : Oper} {a : Act} {Q : Exit → Act → World → Prop}
theorem R_bytes {w0 W : World} (base : Nat) (src dst e : Nat) (hgd : o.guard = none) {N : Tmp} (_hd : o.dst = some N) (x : Operand) (ho : o.op = .convert src dst x) (s : ByteArray) (hx : a.eval x = .string s)
    (hs : P.underlying src = some .string) (hdt : P.underlying dst = some (.slice e)) (he : P.underlying e = some (.int .u8)) (HB : Below base w0 W) (hbase : base ≤ W.heap.size)
    (h : ∀ v1 w1, R e w1 base (fun _ => True) v1 (bytesI s) → Below base w0 w1 → W.grownBy w1 none → (∃ b, v1.ownBlock = some b ∧ W.heap.size ≤ b) → wpList P ops Q rest (a.put o.dst v1) w1) : wpList P ops Q (o :: rest) a W := by
  have hr := Lib.run_convert_string_bytes (P := P) W src dst e s hs hdt he
  refine Kd.event_run hgd (v := .slice (some ⟨W.heap.size, 0, none⟩) s.size (grownCap W s.size 0 e)) (w1 := Lib.bytesWorld W e s) (by simp [execOp, ho, hx, hr]) (h _ _ (R_lower (bytes_row W e s) hbase) ?_ (grown_of_below (bytes_below W e s) none) ⟨_, rfl, Nat.le_refl _⟩)
  exact HB.trans ⟨rfl, rfl, rfl, (bytes_below W e s).size, fun k hk => (bytes_below W e s).block k (Nat.lt_of_lt_of_le hk hbase)⟩
end
end Kb
end Go.Proofs.Ytelommablohfoaa.X
