/- Headers' bytes, and what is got of them: plain laws. -/
import Derived.Test.YtjgdmpbaikhflaaDoorHdJ
namespace Go.Proofs.YtjgdmpbaikhflaaDoor
open Go.RowKit
theorem hdOf_put {h : Hd} (k : h.ok) : hdOf (hdB h) = h := by
  obtain ⟨k0, k1, k2, k3, k4, k5⟩ := k
  have m : ∀ n r, ((Cm.lo 4 n : List UInt8) ++ r).take 4 = Cm.lo 4 n := fun n r => by rw [List.take_append_of_le_length (by rw [Cm.lo_length]; exact Nat.le_refl _), List.take_of_length_le (by rw [Cm.lo_length]; exact Nat.le_refl _)]
  have d4 : ∀ (n j : Nat) (r : List UInt8), ((Cm.lo 4 n : List UInt8) ++ r).drop (4 + j) = r.drop j := fun n j r => by rw [← List.drop_drop, List.drop_left' (Cm.lo_length 4 n)]
  have d32 : ∀ (p : List UInt8) (_ : p.length = 32) (j : Nat) (r : List UInt8), (p ++ r).drop (32 + j) = r.drop j := fun p hp j r => by rw [← List.drop_drop, List.drop_left' hp]
  have t32 : ∀ (p : List UInt8) (_ : p.length = 32) (r : List UInt8), (p ++ r).take 32 = p := fun p hp r => by rw [List.take_append_of_le_length (by omega), List.take_of_length_le (by omega)]
  have le : ∀ n, n < 4294967296 → Cm.le (Cm.lo 4 n) = n := fun n h => by rw [Cm.le_lo]; exact Nat.mod_eq_of_lt h
  have m' : ∀ n, (Cm.lo 4 n : List UInt8).take 4 = Cm.lo 4 n := fun n => List.take_of_length_le (by rw [Cm.lo_length]; exact Nat.le_refl _)
  unfold hdOf hdB
  rw [m, le _ k0, show 4 = 4 + 0 from rfl, d4, List.drop_zero, t32 _ k1, show 36 = 4 + (32 + 0) from rfl, d4, d32 _ k1, List.drop_zero, t32 _ k2,
    show 68 = 4 + (32 + (32 + 0)) from rfl, d4, d32 _ k1, d32 _ k2, List.drop_zero, show 72 = 4 + (32 + (32 + (4 + 0))) from rfl, d4, d32 _ k1, d32 _ k2, d4, List.drop_zero,
    show 76 = 4 + (32 + (32 + (4 + (4 + 0)))) from rfl, d4, d32 _ k1, d32 _ k2, d4, d4, List.drop_zero]
  simp only [Nat.add_zero]
  rw [m, m, m', le _ k3, le _ k4, le _ k5]
theorem hdFin_put : ∀ (l acc : List Hd), OkHds l → hdFin l.length acc (l.flatMap fun h => hdB h ++ [0]) = (acc ++ l, 0)
  | [], acc, _ => by simp [hdFin]
  | h :: l, acc, ok => by
    have hk := ok h (List.mem_cons_self ..)
    have hb := hdB_length hk
    rw [List.length_cons, hdFin, List.flatMap_cons, List.append_assoc, if_neg (by simp only [List.length_append, hb, List.length_singleton]; omega), if_neg (by rw [List.getElem?_append_right (by omega), hb]; simp), List.take_left' hb, hdOf_put hk, ← List.append_assoc, List.drop_left' (by rw [List.length_append, hb]; rfl), hdFin_put l _ (fun x hx => ok x (List.mem_cons_of_mem _ hx)), List.append_assoc]
    rfl
theorem hdGets_put (l : List Hd) (ok : OkHds l) (hl : l.length ≤ 2000) : hdGets (hdAll l) = (l, 0) := by
  have hb : Cm.bounded (hdAll l) 2000 = (l.length, Cm.size l.length, 0) := by
    unfold Cm.bounded hdAll
    rw [Cm.get_put _ (by omega), if_neg (by simp), if_neg (by dsimp only; omega)]
  unfold hdGets
  rw [hb, if_neg (by simp)]
  unfold hdAll
  rw [List.drop_left' (Cm.put_length _), hdFin_put l [] ok]
  rfl
theorem hdFin_bad (k : Nat) : ∀ (acc : List Hd) (b : List UInt8), (hdFin k acc b).2 ≠ 0 → (hdFin k acc b).1 = [] := by
  induction k with
  | zero => intro acc b; unfold hdFin; split <;> simp
  | succ k ih => intro acc b; unfold hdFin; split; · simp
                 split; · simp
                 exact ih _ _
theorem hdFin_more : ∀ (l acc : List Hd), OkHds l → hdFin l.length acc ((l.flatMap fun h => hdB h ++ [0]) ++ [0]) = ([], 2)
  | [], acc, _ => by simp [hdFin]
  | h :: l, acc, ok => by
    have hk := ok h (List.mem_cons_self ..)
    have hb := hdB_length hk
    rw [List.length_cons, hdFin, List.flatMap_cons, List.append_assoc, List.append_assoc, if_neg (by simp only [List.length_append, hb, List.length_singleton]; omega), if_neg (by rw [List.getElem?_append_right (by omega), hb]; simp), List.take_left' hb, hdOf_put hk, ← List.append_assoc, List.drop_left' (by rw [List.length_append, hb]; rfl), hdFin_more l _ (fun x hx => ok x (List.mem_cons_of_mem _ hx))]
theorem hdGets_more (l : List Hd) (ok : OkHds l) (hl : l.length ≤ 2000) : hdGets (hdAll l ++ [0]) = ([], 2) := by
  have hb : Cm.bounded (hdAll l ++ [0]) 2000 = (l.length, Cm.size l.length, 0) := by
    unfold Cm.bounded hdAll
    rw [List.append_assoc, Cm.get_put _ (by omega), if_neg (by simp), if_neg (by dsimp only; omega)]
  unfold hdGets
  rw [hb, if_neg (by simp)]
  unfold hdAll
  rw [List.append_assoc, List.drop_left' (Cm.put_length _), hdFin_more l [] ok]
theorem hdFin_less : ∀ (l acc : List Hd), OkHds l → l ≠ [] → hdFin l.length acc ((l.flatMap fun h => hdB h ++ [0]).take (81 * l.length - 1)) = ([], 1)
  | [], _, _, h => absurd rfl h
  | [h], acc, ok, _ => by
    have hb := hdB_length (ok h (List.mem_cons_self ..))
    rw [List.length_singleton, hdFin, if_pos (by rw [List.length_take]; omega)]
  | h :: y :: l, acc, ok, _ => by
    have hk := ok h (List.mem_cons_self ..)
    have hb := hdB_length hk
    have e : 81 * (h :: y :: l).length - 1 = (hdB h ++ [0]).length + (81 * (y :: l).length - 1) := by simp only [List.length_cons, List.length_append, hb, List.length_nil]; omega
    rw [e, List.flatMap_cons, List.take_length_add_append, List.length_cons, hdFin, List.append_assoc, if_neg (by simp only [List.length_append, hb, List.length_take, List.flatMap_cons, hdB_length (ok y (by simp)), List.length_cons]; omega), if_neg (by rw [List.getElem?_append_right (by omega), hb]; simp), List.take_left' hb, hdOf_put hk, ← List.append_assoc, List.drop_left' (by rw [List.length_append, hb]; rfl), hdFin_less (y :: l) _ (fun x hx => ok x (List.mem_cons_of_mem _ hx)) (by simp)]
theorem hdGets_less (l : List Hd) (ok : OkHds l) (hl : l.length < 253) : hdGets ((hdAll l).take (81 * l.length)) = ([], 1) := by
  by_cases h0 : l = []
  · subst h0
    rfl
  have hp : 0 < l.length := List.length_pos_iff.2 h0
  have e : (hdAll l).take (81 * l.length) = Cm.put l.length ++ (l.flatMap fun h => hdB h ++ [0]).take (81 * l.length - 1) := by
    unfold hdAll
    have p1 : (Cm.put l.length).length = 1 := by rw [Cm.put_length, Cm.size, if_pos hl]
    rw [List.take_append, p1, List.take_of_length_le (by omega)]
  rw [e]
  have hb : Cm.bounded (Cm.put l.length ++ (l.flatMap fun h => hdB h ++ [0]).take (81 * l.length - 1)) 2000 = (l.length, Cm.size l.length, 0) := by
    unfold Cm.bounded
    rw [Cm.get_put _ (by omega), if_neg (by simp), if_neg (by dsimp only; omega)]
  unfold hdGets
  rw [hb, if_neg (by simp), List.drop_left' (Cm.put_length _), hdFin_less l [] ok h0]
theorem hdB_hdOf {b : List UInt8} (h : b.length = 80) : hdB (hdOf b) = b := by
  have q : ∀ o, o + 4 ≤ 80 → Cm.lo 4 (Cm.le ((b.drop o).take 4)) = (b.drop o).take 4 := fun o ho => by
    have := Cm.lo_le ((b.drop o).take 4)
    rwa [show ((b.drop o).take 4).length = 4 by rw [List.length_take, List.length_drop]; omega] at this
  have q0 := q 0 (by omega)
  rw [List.drop_zero] at q0
  unfold hdB hdOf
  dsimp only
  rw [q0, q 68 (by omega), q 72 (by omega), q 76 (by omega)]
  have c : ∀ o n, (b.drop o).take n ++ b.drop (o + n) = b.drop o := fun o n => by rw [← List.drop_drop, List.take_append_drop]
  have e6 : (b.drop 76).take 4 = b.drop 76 := List.take_of_length_le (by rw [List.length_drop]; omega)
  rw [e6, c 72 4, c 68 4, c 36 32, c 4 32, List.take_append_drop]
theorem hdFin_once (k : Nat) : ∀ (acc : List Hd) (b : List UInt8), (hdFin k acc b).2 = 0 → ∃ l, OkHds l ∧ l.length = k ∧ (hdFin k acc b).1 = acc ++ l ∧ b = l.flatMap fun h => hdB h ++ [0] := by
  induction k with
  | zero =>
    intro acc b h
    unfold hdFin at h ⊢
    split at h
    · cases h
    · rename_i h0
      rw [if_neg h0]
      exact ⟨[], fun _ h => (by cases h), rfl, by simp, by simpa using h0⟩
  | succ k ih =>
    intro acc b h
    unfold hdFin at h ⊢
    split at h
    · cases h
    rename_i h1
    split at h
    · cases h
    rename_i h2
    rw [if_neg h1, if_neg h2]
    obtain ⟨l, l1, l2, l3, l4⟩ := ih _ _ h
    have h80 : (b.take 80).length = 80 := by rw [List.length_take]; omega
    refine ⟨hdOf (b.take 80) :: l, ?_, by rw [List.length_cons, l2], by rw [l3, List.append_assoc]; rfl, ?_⟩
    · intro u hu
      rcases List.mem_cons.1 hu with rfl | hu
      · exact hdOf_ok h80
      · exact l1 u hu
    · rw [List.flatMap_cons, hdB_hdOf h80, ← l4]
      have h3 : b[80]? = some 0 := Decidable.not_not.1 h2
      have h4 : b.drop 80 = 0 :: b.drop 81 := by
        obtain ⟨p, q⟩ := List.getElem?_eq_some_iff.1 h3
        rw [← q, List.getElem_cons_drop]
      rw [List.append_assoc, List.singleton_append, ← h4, List.take_append_drop]
theorem hdGets_bad (b : List UInt8) (h : (hdGets b).2 ≠ 0) : (hdGets b).1 = [] := by
  unfold hdGets at h ⊢
  split at h
  · rename_i e
    rw [if_pos e]
  · rename_i e
    rw [if_neg e]
    exact hdFin_bad _ _ _ h
theorem hdGets_once (b : List UInt8) (h : (hdGets b).2 = 0) : OkHds (hdGets b).1 ∧ hdAll (hdGets b).1 = b ∧ (hdGets b).1.length ≤ 2000 := by
  unfold hdGets at h ⊢
  split at h
  · rename_i e
    exact absurd h e
  rename_i e
  rw [if_neg e]
  obtain ⟨l, l1, l2, l3, l4⟩ := hdFin_once _ _ _ h
  rw [l3, List.nil_append]
  have e0 : (Cm.bounded b 2000).2.2 = 0 := Decidable.not_not.1 e
  have hB : Cm.bounded b 2000 = Cm.get b ∧ (Cm.get b).1 ≤ 2000 := by
    unfold Cm.bounded at e0 ⊢
    split at e0
    · rename_i e1
      exact absurd e0 e1
    split at e0
    · cases e0
    rename_i e1 e2
    rw [if_neg e1, if_neg e2]
    exact ⟨rfl, by omega⟩
  rw [hB.1] at l2 l4 e0
  refine ⟨l1, ?_, by omega⟩
  unfold hdAll
  rw [l2, ← l4, (Cm.put_get b e0).1, List.take_append_drop]
end Go.Proofs.YtjgdmpbaikhflaaDoor
