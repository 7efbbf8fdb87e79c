/- Plain laws of transactions: what is got is put so. -/
import Derived.Test.YtopgljkfoogihaaDoorTxG2
import Derived.Test.YtopgljkfoogihaaDoorTxS
namespace Go.Proofs.YtopgljkfoogihaaDoor
open Go.RowKit

/-- the bytes from a up to b -/
def seg (bs : List UInt8) (a b : Nat) : List UInt8 := (bs.drop a).take (b - a)
theorem seg_trans (bs : List UInt8) {a b c : Nat} (h1 : a ≤ b) (h2 : b ≤ c) : seg bs a b ++ seg bs b c = seg bs a c := by
  unfold seg
  rw [show c - a = (b - a) + (c - b) by omega, List.take_add, List.drop_drop, show a + (b - a) = b by omega]
theorem seg_self (bs : List UInt8) (a : Nat) : seg bs a a = [] := by simp [seg]
theorem sTake_ok {bs x : List UInt8} {a e sz a' : Nat} (h : sTake bs a e sz = (x, a', 0)) (ha : a ≤ bs.length) : e = 0 ∧ a' = a + sz ∧ a' ≤ bs.length ∧ x = seg bs a a' ∧ x.length = sz := by
  unfold sTake at h
  split at h
  · rename_i he
    simp only [Prod.mk.injEq] at h
    exact absurd h.2.2 he
  · rename_i he
    split at h
    · simp at h
    · rename_i hs
      simp only [Prod.mk.injEq] at h
      obtain ⟨rfl, rfl, _⟩ := h
      refine ⟨by omega, rfl, by omega, by rw [seg, Nat.add_sub_cancel_left], by simp; omega⟩
theorem sTake_num {bs x : List UInt8} {a e sz a' : Nat} (h : sTake bs a e sz = (x, a', 0)) (ha : a ≤ bs.length) : Cm.lo sz (Cm.le x) = seg bs a a' := by
  obtain ⟨_, _, _, h1, h2⟩ := sTake_ok h ha
  rw [← h1, ← h2]
  exact Cm.lo_le x
theorem bounded_ok {l : List UInt8} {most N k : Nat} (h : Cm.bounded l most = (N, k, 0)) : Cm.put N = l.take k ∧ k ≤ l.length ∧ N ≤ most := by
  have hf := bounded_fst l most
  rw [h] at hf
  unfold Cm.bounded at h
  split at h
  · rename_i h0
    simp only [Prod.mk.injEq] at h
    exact absurd h.2.2 h0
  · rename_i h0
    split at h
    · simp at h
    · have hp := Cm.put_get l (by simpa using h0)
      rw [h] at hp
      exact ⟨hp.1, hp.2.2.1, hf⟩
theorem sCount_ok {bs : List UInt8} {a e most N a' : Nat} (h : sCount bs a e most = (N, a', 0)) (ha : a ≤ bs.length) : e = 0 ∧ a ≤ a' ∧ a' ≤ bs.length ∧ Cm.put N = seg bs a a' ∧ N ≤ most := by
  unfold sCount at h
  split at h
  · rename_i he
    simp only [Prod.mk.injEq] at h
    exact absurd h.2.2 he
  · rename_i he
    obtain ⟨n, k, e', hb⟩ : ∃ n k e', Cm.bounded (bs.drop a) most = (n, k, e') := ⟨_, _, _, rfl⟩
    rw [hb] at h
    simp only [Prod.mk.injEq] at h
    obtain ⟨rfl, rfl, rfl⟩ := h
    obtain ⟨h1, h2, h3⟩ := bounded_ok hb
    rw [List.length_drop] at h2
    exact ⟨by omega, by omega, by omega, by rw [seg, Nat.add_sub_cancel_left]; exact h1, h3⟩
theorem sScript_ok {bs x : List UInt8} {a e a' : Nat} (h : sScript bs a e = (x, a', 0)) (ha : a ≤ bs.length) : e = 0 ∧ a ≤ a' ∧ a' ≤ bs.length ∧ Cm.put x.length ++ x = seg bs a a' ∧ x.length ≤ 10000 := by
  unfold sScript at h
  split at h
  · rename_i he
    simp only [Prod.mk.injEq] at h
    exact absurd h.2.2 he
  · rename_i he
    unfold Cm.bytes at h
    simp only [show (10000 : Int).toNat = 10000 from rfl] at h
    obtain ⟨n, k, e', hb⟩ : ∃ n k e', Cm.bounded (bs.drop a) 10000 = (n, k, e') := ⟨_, _, _, rfl⟩
    rw [hb] at h
    simp only at h
    split at h
    · rename_i h0
      simp only [Prod.mk.injEq] at h
      exact absurd h.2.2 h0
    · rename_i h0
      split at h
      · simp at h
      · split at h
        · simp at h
        · rename_i hl
          have h0' : e' = 0 := by simpa using h0
          subst h0'
          obtain ⟨h1, h2, h3⟩ := bounded_ok hb
          simp only [Prod.mk.injEq] at h
          obtain ⟨rfl, rfl, _⟩ := h
          rw [List.length_drop] at h2 hl
          have hlen : (((bs.drop a).drop k).take n).length = n := by simp; omega
          refine ⟨by omega, by omega, by omega, ?_, by omega⟩
          rw [hlen, h1, seg, Nat.add_sub_cancel_left, List.take_add]
theorem padH_full {x : List UInt8} (h : x.length = 32) : padH x = x := by simp [padH, h]
theorem gIn_ok {bs : List UInt8} {a e a' : Nat} {i : TIn} (h : gIn bs a e = (i, a', 0)) (ha : a ≤ bs.length) : e = 0 ∧ a ≤ a' ∧ a' ≤ bs.length ∧ inB i = seg bs a a' ∧ i.scr.length ≤ 10000 := by
  unfold gIn at h
  obtain ⟨p, a1, e1, h1⟩ : ∃ X Y Z, sTake bs a e 32 = (X, Y, Z) := ⟨_, _, _, rfl⟩
  have y1 := (sTake_le bs a e 32 ha).1
  rw [h1] at y1
  obtain ⟨n, a2, e2, h2⟩ : ∃ X Y Z, sTake bs a1 e1 4 = (X, Y, Z) := ⟨_, _, _, rfl⟩
  have y2 := (sTake_le bs a1 e1 4 y1).1
  rw [h2] at y2
  obtain ⟨s, a3, e3, h3⟩ : ∃ X Y Z, sScript bs a2 e2 = (X, Y, Z) := ⟨_, _, _, rfl⟩
  have y3 := sScript_le bs a2 e2 y2
  rw [h3] at y3
  obtain ⟨q, a4, e4, h4⟩ : ∃ X Y Z, sTake bs a3 e3 4 = (X, Y, Z) := ⟨_, _, _, rfl⟩
  simp only [h1, h2, h3, h4, Prod.mk.injEq] at h
  obtain ⟨rfl, rfl, rfl⟩ := h
  obtain ⟨z4, w4, v4, _, _⟩ := sTake_ok h4 y3
  subst z4
  have n4 := sTake_num h4 y3
  obtain ⟨z3, w3, v3, n3, b3⟩ := sScript_ok h3 y2
  subst z3
  obtain ⟨z2, w2, v2, _, _⟩ := sTake_ok h2 y1
  subst z2
  have n2 := sTake_num h2 y1
  obtain ⟨z1, w1, v1, n1, l1⟩ := sTake_ok h1 ha
  refine ⟨z1, by omega, v4, ?_, b3⟩
  simp only [inB]
  rw [padH_full l1, n1, n2, n3, n4, seg_trans bs w3 (by omega), seg_trans bs (by omega) (by omega), seg_trans bs (by omega) (by omega)]
theorem gOut_ok {bs : List UInt8} {a e a' : Nat} {i : TOut} (h : gOut bs a e = (i, a', 0)) (ha : a ≤ bs.length) : e = 0 ∧ a ≤ a' ∧ a' ≤ bs.length ∧ outBs i = seg bs a a' ∧ i.scr.length ≤ 10000 := by
  unfold gOut at h
  obtain ⟨n, a2, e2, h2⟩ : ∃ X Y Z, sTake bs a e 8 = (X, Y, Z) := ⟨_, _, _, rfl⟩
  have y2 := (sTake_le bs a e 8 ha).1
  rw [h2] at y2
  obtain ⟨s, a3, e3, h3⟩ : ∃ X Y Z, sScript bs a2 e2 = (X, Y, Z) := ⟨_, _, _, rfl⟩
  simp only [h2, h3, Prod.mk.injEq] at h
  obtain ⟨rfl, rfl, rfl⟩ := h
  obtain ⟨z3, w3, v3, n3, b3⟩ := sScript_ok h3 y2
  subst z3
  obtain ⟨z2, w2, v2, _, _⟩ := sTake_ok h2 ha
  have n2 := sTake_num h2 ha
  refine ⟨z2, by omega, v3, ?_, b3⟩
  simp only [outBs]
  rw [n2, n3, seg_trans bs (by omega) w3]
theorem gMany_ok {α : Type} {f : Nat → Nat → α × Nat × Nat} {g : α → List UInt8} {ok : α → Prop} {bs : List UInt8} (hf : ∀ a e a' x, f a e = (x, a', 0) → a ≤ bs.length → e = 0 ∧ a ≤ a' ∧ a' ≤ bs.length ∧ g x = seg bs a a' ∧ ok x) (hle : ∀ a e, a ≤ bs.length → (f a e).2.1 ≤ bs.length) :
    ∀ (k a e : Nat) (l : List α) (a' : Nat), gMany f k a e = (l, a', 0) → a ≤ bs.length → e = 0 ∧ a ≤ a' ∧ a' ≤ bs.length ∧ l.flatMap g = seg bs a a' ∧ l.length = k ∧ ∀ x ∈ l, ok x
  | 0, a, e, l, a', h, ha => by
    simp only [gMany, Prod.mk.injEq] at h
    obtain ⟨rfl, rfl, rfl⟩ := h
    exact ⟨rfl, Nat.le_refl _, ha, by rw [seg_self]; rfl, rfl, fun x hx => by cases hx⟩
  | k + 1, a, e, l, a', h, ha => by
    by_cases he : e = 0
    · subst he
      rw [gMany_go] at h
      obtain ⟨x, a1, e1, h1⟩ : ∃ X Y Z, f a 0 = (X, Y, Z) := ⟨_, _, _, rfl⟩
      have y1 := hle a 0 ha
      rw [h1] at h y1
      obtain ⟨r, a2, e2, h2⟩ : ∃ X Y Z, gMany f k a1 e1 = (X, Y, Z) := ⟨_, _, _, rfl⟩
      simp only [h2, Prod.mk.injEq] at h
      obtain ⟨rfl, rfl, rfl⟩ := h
      obtain ⟨q1, q2, q3, q4, q5, q6⟩ := gMany_ok hf hle k a1 e1 r a2 h2 y1
      subst q1
      obtain ⟨_, p2, p3, p4, p5⟩ := hf a 0 a1 x h1 ha
      refine ⟨rfl, by omega, q3, ?_, by rw [List.length_cons, q5], ?_⟩
      · rw [List.flatMap_cons, p4, q4, seg_trans bs p2 q2]
      · intro y hy
        rcases List.mem_cons.1 hy with rfl | hy
        · exact p5
        · exact q6 y hy
    · rw [gMany_stop _ _ _ _ he] at h
      simp only [Prod.mk.injEq] at h
      exact absurd h.2.2 he
theorem gIn_le (bs : List UInt8) (a e : Nat) (ha : a ≤ bs.length) : (gIn bs a e).2.1 ≤ bs.length := by
  unfold gIn
  have y1 := (sTake_le bs a e 32 ha).1
  have y2 := (sTake_le bs _ (sTake bs a e 32).2.2 4 y1).1
  have y3 := sScript_le bs _ (sTake bs (sTake bs a e 32).2.1 (sTake bs a e 32).2.2 4).2.2 y2
  exact (sTake_le bs _ _ 4 y3).1
theorem gOut_le (bs : List UInt8) (a e : Nat) (ha : a ≤ bs.length) : (gOut bs a e).2.1 ≤ bs.length := by
  unfold gOut
  have y1 := (sTake_le bs a e 8 ha).1
  exact sScript_le bs _ _ y1
theorem gMany_le {α : Type} {f : Nat → Nat → α × Nat × Nat} {bs : List UInt8} (hle : ∀ a e, a ≤ bs.length → (f a e).2.1 ≤ bs.length) : ∀ (k a e : Nat), a ≤ bs.length → (gMany f k a e).2.1 ≤ bs.length
  | 0, a, e, ha => ha
  | k + 1, a, e, ha => by
    rw [gMany]
    split
    · exact ha
    · exact gMany_le hle k _ _ (hle a e ha)
/-- WHAT IS GOT IS PUT SO -/
theorem txGet_ok (bs : List UInt8) (h : (txGet bs).2.2 = 0) : (txGet bs).2.1 ≤ bs.length ∧ txSane (txGet bs).1 = true ∧ txB (txGet bs).1 = bs.take (txGet bs).2.1 := by
  unfold txGet at h ⊢
  obtain ⟨x0, a1, e1, h0⟩ : ∃ X Y Z, sTake bs 0 0 4 = (X, Y, Z) := ⟨_, _, _, rfl⟩
  have y0 := (sTake_le bs 0 0 4 (Nat.zero_le _)).1
  rw [h0] at y0
  obtain ⟨N, a2, e2, h1⟩ : ∃ X Y Z, sCount bs a1 e1 1000 = (X, Y, Z) := ⟨_, _, _, rfl⟩
  have y1 := (sCount_le bs a1 e1 1000 y0).1
  rw [h1] at y1
  obtain ⟨e3, h3⟩ : ∃ e3, e3 = if e2 = 0 ∧ N = 0 then 2 else e2 := ⟨_, rfl⟩
  obtain ⟨ins, a4, e4, h4⟩ : ∃ X Y Z, gMany (gIn bs) N a2 e3 = (X, Y, Z) := ⟨_, _, _, rfl⟩
  have y4 := gMany_le (gIn_le bs) N a2 e3 y1
  rw [h4] at y4
  obtain ⟨M, a5, e5, h5⟩ : ∃ X Y Z, sCount bs a4 e4 1000 = (X, Y, Z) := ⟨_, _, _, rfl⟩
  have y5 := (sCount_le bs a4 e4 1000 y4).1
  rw [h5] at y5
  obtain ⟨outs, a6, e6, h6⟩ : ∃ X Y Z, gMany (gOut bs) M a5 e5 = (X, Y, Z) := ⟨_, _, _, rfl⟩
  have y6 := gMany_le (gOut_le bs) M a5 e5 y5
  rw [h6] at y6
  obtain ⟨x7, a7, e7, h7⟩ : ∃ X Y Z, sTake bs a6 e6 4 = (X, Y, Z) := ⟨_, _, _, rfl⟩
  simp only at y0 y1 y4 y5 y6
  simp only [h0, h1, ← h3, h4, h5, h6, h7] at h ⊢
  by_cases he : e7 = 0
  · subst he
    rw [if_neg (by simp)]
    obtain ⟨z6, w7, v7, _, _⟩ := sTake_ok h7 y6
    subst z6
    have n7 := sTake_num h7 y6
    obtain ⟨z5, w6, v6, n6, l6, s6⟩ := gMany_ok (g := outBs) (ok := fun o => o.scr.length ≤ 10000) (fun a e a' x hx ha => gOut_ok hx ha) (gOut_le bs) M a5 e5 outs a6 h6 y5
    subst z5
    obtain ⟨z4, w5, v5, n5, b5⟩ := sCount_ok h5 y4
    subst z4
    obtain ⟨z3, w4, v4, n4, l4, s4⟩ := gMany_ok (g := inB) (ok := fun o => o.scr.length ≤ 10000) (fun a e a' x hx ha => gIn_ok hx ha) (gIn_le bs) N a2 e3 ins a4 h4 y1
    subst z3
    have hN : e2 = 0 ∧ N ≠ 0 := by
      by_cases hc : e2 = 0 ∧ N = 0
      · rw [if_pos hc] at h3; omega
      · rw [if_neg hc] at h3
        exact ⟨h3.symm, fun hN => hc ⟨h3.symm, hN⟩⟩
    obtain ⟨rfl, hN0⟩ := hN
    obtain ⟨z1, w1, v1, n1, b1⟩ := sCount_ok h1 y0
    subst z1
    obtain ⟨_, w0, v0, _, _⟩ := sTake_ok h0 (Nat.zero_le _)
    have n0 := sTake_num h0 (Nat.zero_le _)
    refine ⟨v7, (txSane_iff _).2 ⟨⟨by show 1 ≤ ins.length; omega, by show ins.length ≤ 1000; omega, by show outs.length ≤ 1000; omega⟩, s4, s6⟩, ?_⟩
    simp only [txB]
    rw [l4, l6, n0, n1, n4, n5, n6, n7, seg_trans bs w6 (by omega), seg_trans bs w5 (by omega), seg_trans bs w4 (by omega), seg_trans bs w1 (by omega), seg_trans bs (by omega) (by omega), seg]
    simp
  · rw [if_pos he] at h
    exact absurd h he
theorem txGet_bad (bs : List UInt8) (h : (txGet bs).2.2 ≠ 0) : (txGet bs).1 = ⟨0, [], [], 0⟩ ∧ (txGet bs).2.1 = 0 := by
  unfold txGet at h ⊢
  obtain ⟨x0, a1, e1, h0⟩ : ∃ X Y Z, sTake bs 0 0 4 = (X, Y, Z) := ⟨_, _, _, rfl⟩
  obtain ⟨N, a2, e2, h1⟩ : ∃ X Y Z, sCount bs a1 e1 1000 = (X, Y, Z) := ⟨_, _, _, rfl⟩
  obtain ⟨e3, h3⟩ : ∃ e3, e3 = if e2 = 0 ∧ N = 0 then 2 else e2 := ⟨_, rfl⟩
  obtain ⟨ins, a4, e4, h4⟩ : ∃ X Y Z, gMany (gIn bs) N a2 e3 = (X, Y, Z) := ⟨_, _, _, rfl⟩
  obtain ⟨M, a5, e5, h5⟩ : ∃ X Y Z, sCount bs a4 e4 1000 = (X, Y, Z) := ⟨_, _, _, rfl⟩
  obtain ⟨outs, a6, e6, h6⟩ : ∃ X Y Z, gMany (gOut bs) M a5 e5 = (X, Y, Z) := ⟨_, _, _, rfl⟩
  obtain ⟨x7, a7, e7, h7⟩ : ∃ X Y Z, sTake bs a6 e6 4 = (X, Y, Z) := ⟨_, _, _, rfl⟩
  simp only [h0, h1, ← h3, h4, h5, h6, h7] at h ⊢
  by_cases he : e7 = 0
  · subst he
    rw [if_neg (by simp)] at h
    exact absurd rfl h
  · rw [if_pos he]
    exact ⟨rfl, rfl⟩
end Go.Proofs.YtopgljkfoogihaaDoor
