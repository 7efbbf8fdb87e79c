/- Plain laws of transactions: what is put is got again; each beginning of it is short. -/
import Derived.Test.YtopgljkfoogihaaDoorTxLw
namespace Go.Proofs.YtopgljkfoogihaaDoor
open Go.RowKit

theorem sTake_app (p x r : List UInt8) : sTake (p ++ (x ++ r)) p.length 0 x.length = (x, p.length + x.length, 0) := by
  unfold sTake
  rw [if_neg (by simp), if_neg (by simp), List.drop_left, List.take_left]
theorem num_app (p r : List UInt8) (n sz : Nat) (h : n < 256 ^ sz) : ∃ x, sTake (p ++ (Cm.lo sz n ++ r)) p.length 0 sz = (x, p.length + (Cm.lo sz n).length, 0) ∧ Cm.le x = n := by
  have := sTake_app p (Cm.lo sz n) r
  rw [Cm.lo_length] at this
  exact ⟨_, by rw [this, Cm.lo_length], by rw [Cm.le_lo]; exact Nat.mod_eq_of_lt h⟩
theorem bounded_app (r : List UInt8) (n most : Nat) (h : n ≤ most) (h2 : n ≤ 2147483647) : Cm.bounded (Cm.put n ++ r) most = (n, (Cm.put n).length, 0) := by
  have hg := Cm.get_put n (by omega) r
  unfold Cm.bounded
  rw [hg, if_neg (by simp), if_neg (by simp only; omega), Cm.put_length]
theorem count_app (p r : List UInt8) (n most : Nat) (h : n ≤ most) (h2 : n ≤ 2147483647) : sCount (p ++ (Cm.put n ++ r)) p.length 0 most = (n, p.length + (Cm.put n).length, 0) := by
  unfold sCount
  rw [if_neg (by simp), List.drop_left, bounded_app r n most h h2]
theorem script_app (p x r : List UInt8) (h : x.length ≤ 10000) : sScript (p ++ ((Cm.put x.length ++ x) ++ r)) p.length 0 = (x, p.length + (Cm.put x.length ++ x).length, 0) := by
  unfold sScript
  rw [if_neg (by simp), List.drop_left, List.append_assoc]
  unfold Cm.bytes
  simp only [show (10000 : Int).toNat = 10000 from rfl]
  rw [bounded_app (x ++ r) x.length 10000 h (by omega)]
  rw [if_neg (by simp), if_neg (by simp), if_neg (by simp only [List.length_append]; omega)]
  simp only [List.drop_left, List.take_left, List.length_append]
theorem gIn_app (p r : List UInt8) (i : TIn) (h : i.ok) (hs : i.scr.length ≤ 10000) : gIn (p ++ (inB i ++ r)) p.length 0 = (i, p.length + (inB i).length, 0) := by
  obtain ⟨h1, h2, h3⟩ := h
  unfold gIn
  have e1 : p ++ (inB i ++ r) = p ++ (i.prev ++ (Cm.lo 4 i.idx ++ ((Cm.put i.scr.length ++ i.scr) ++ (Cm.lo 4 i.seq ++ r)))) := by simp [inB]
  rw [e1]
  have t1 := sTake_app p i.prev (Cm.lo 4 i.idx ++ ((Cm.put i.scr.length ++ i.scr) ++ (Cm.lo 4 i.seq ++ r)))
  rw [h1] at t1
  obtain ⟨x2, t2, v2⟩ := num_app (p ++ i.prev) ((Cm.put i.scr.length ++ i.scr) ++ (Cm.lo 4 i.seq ++ r)) i.idx 4 h2
  rw [List.append_assoc, List.length_append, h1] at t2
  have t3 := script_app (p ++ i.prev ++ Cm.lo 4 i.idx) i.scr (Cm.lo 4 i.seq ++ r) hs
  rw [List.append_assoc, List.append_assoc, List.length_append, List.length_append, h1] at t3
  obtain ⟨x4, t4, v4⟩ := num_app (p ++ i.prev ++ Cm.lo 4 i.idx ++ (Cm.put i.scr.length ++ i.scr)) r i.seq 4 h3
  rw [List.append_assoc, List.append_assoc, List.append_assoc, List.length_append, List.length_append, List.length_append, h1] at t4
  simp only [t1, t2, t3, t4]
  rw [padH_full h1, v2, v4]
  simp only [inB, List.length_append, h1, Prod.mk.injEq, true_and, and_true]
  omega
theorem gOut_app (p r : List UInt8) (i : TOut) (h : i.ok) (hs : i.scr.length ≤ 10000) : gOut (p ++ (outBs i ++ r)) p.length 0 = (i, p.length + (outBs i).length, 0) := by
  unfold TOut.ok at h
  unfold gOut
  have e1 : p ++ (outBs i ++ r) = p ++ (Cm.lo 8 i.val ++ ((Cm.put i.scr.length ++ i.scr) ++ r)) := by simp [outBs]
  rw [e1]
  obtain ⟨x2, t2, v2⟩ := num_app p ((Cm.put i.scr.length ++ i.scr) ++ r) i.val 8 (by simpa using h)
  have t3 := script_app (p ++ Cm.lo 8 i.val) i.scr r hs
  rw [List.append_assoc, List.length_append] at t3
  simp only [t2, t3]
  rw [v2]
  simp only [outBs, List.length_append, Prod.mk.injEq, true_and, and_true]
  omega
theorem gMany_app {α : Type} {f : List UInt8 → Nat → Nat → α × Nat × Nat} {g : α → List UInt8} {ok : α → Prop} (hf : ∀ p r x, ok x → f (p ++ (g x ++ r)) p.length 0 = (x, p.length + (g x).length, 0)) :
    ∀ (l : List α) (p r : List UInt8), (∀ x ∈ l, ok x) → gMany (f (p ++ (l.flatMap g ++ r))) l.length p.length 0 = (l, p.length + (l.flatMap g).length, 0)
  | [], p, r, _ => by simp [gMany]
  | x :: l, p, r, h => by
    rw [List.length_cons, gMany_go]
    have e1 : p ++ ((x :: l).flatMap g ++ r) = p ++ (g x ++ (l.flatMap g ++ r)) := by simp
    rw [e1, hf p _ x (h x (List.mem_cons_self ..))]
    have ih := gMany_app hf l (p ++ g x) r fun y hy => h y (List.mem_cons_of_mem _ hy)
    rw [List.append_assoc, List.length_append] at ih
    simp only [ih]
    simp only [List.flatMap_cons, List.length_append, Prod.mk.injEq, true_and, and_true]
    omega
def TTx.ok (t : TTx) : Prop := t.ver < 4294967296 ∧ t.lock < 4294967296 ∧ (∀ i ∈ t.ins, i.ok) ∧ ∀ o ∈ t.outs, o.ok
/-- WHAT IS PUT IS GOT AGAIN -/
theorem txGet_txB (t : TTx) (h : t.ok) (hs : txSane t = true) (more : List UInt8) : txGet (txB t ++ more) = (t, (txB t).length, 0) := by
  obtain ⟨⟨c1, c2, c3⟩, s1, s2⟩ := (txSane_iff t).1 hs
  obtain ⟨o1, o2, o3, o4⟩ := h
  unfold txGet
  have e1 : txB t ++ more = Cm.lo 4 t.ver ++ (Cm.put t.ins.length ++ (t.ins.flatMap inB ++ (Cm.put t.outs.length ++ (t.outs.flatMap outBs ++ (Cm.lo 4 t.lock ++ more))))) := by simp [txB]
  rw [e1]
  obtain ⟨x0, t0, v0⟩ := num_app [] (Cm.put t.ins.length ++ (t.ins.flatMap inB ++ (Cm.put t.outs.length ++ (t.outs.flatMap outBs ++ (Cm.lo 4 t.lock ++ more))))) t.ver 4 o1
  rw [List.nil_append, List.length_nil, Nat.zero_add] at t0
  have t1 := count_app (Cm.lo 4 t.ver) (t.ins.flatMap inB ++ (Cm.put t.outs.length ++ (t.outs.flatMap outBs ++ (Cm.lo 4 t.lock ++ more)))) t.ins.length 1000 c2 (by omega)
  have t2 := gMany_app (f := gIn) (g := inB) (ok := fun i => i.ok ∧ i.scr.length ≤ 10000) (fun p r x hx => gIn_app p r x hx.1 hx.2) t.ins (Cm.lo 4 t.ver ++ Cm.put t.ins.length) (Cm.put t.outs.length ++ (t.outs.flatMap outBs ++ (Cm.lo 4 t.lock ++ more))) fun i hi => ⟨o3 i hi, s1 i hi⟩
  rw [List.append_assoc, List.length_append] at t2
  have t3 := count_app (Cm.lo 4 t.ver ++ Cm.put t.ins.length ++ t.ins.flatMap inB) (t.outs.flatMap outBs ++ (Cm.lo 4 t.lock ++ more)) t.outs.length 1000 c3 (by omega)
  rw [List.append_assoc, List.append_assoc, List.length_append, List.length_append] at t3
  have t4 := gMany_app (f := gOut) (g := outBs) (ok := fun i => i.ok ∧ i.scr.length ≤ 10000) (fun p r x hx => gOut_app p r x hx.1 hx.2) t.outs (Cm.lo 4 t.ver ++ Cm.put t.ins.length ++ t.ins.flatMap inB ++ Cm.put t.outs.length) (Cm.lo 4 t.lock ++ more) fun i hi => ⟨o4 i hi, s2 i hi⟩
  rw [List.append_assoc, List.append_assoc, List.append_assoc, List.length_append, List.length_append, List.length_append] at t4
  obtain ⟨x5, t5, v5⟩ := num_app (Cm.lo 4 t.ver ++ Cm.put t.ins.length ++ t.ins.flatMap inB ++ Cm.put t.outs.length ++ t.outs.flatMap outBs) more t.lock 4 o2
  rw [List.append_assoc, List.append_assoc, List.append_assoc, List.append_assoc, List.length_append, List.length_append, List.length_append, List.length_append] at t5
  have hN : ¬ (t.ins.length = 0) := by omega
  simp only [t0, t1, hN, and_false, ↓reduceIte, t2, t3, t4, t5]
  rw [if_neg (by simp), v0, v5]
  simp only [txB, List.length_append, Prod.mk.injEq, true_and, and_true]
  omega

/-! ### each beginning is short -/
/-- a reader of bytes: behind an error it does nothing; where it succeeds it goes on; of a beginning it reads the same, or it is short -/
structure Rdr {α : Type} (f : List UInt8 → Nat → Nat → α × Nat × Nat) : Prop where
  err : ∀ bs a e, e ≠ 0 → (f bs a e).2.2 = e
  mono : ∀ bs a x a', a ≤ bs.length → f bs a 0 = (x, a', 0) → a ≤ a' ∧ a' ≤ bs.length
  pre : ∀ bs a k x a', a ≤ k → k ≤ bs.length → f bs a 0 = (x, a', 0) → (a' ≤ k → f (bs.take k) a 0 = (x, a', 0)) ∧ (k < a' → (f (bs.take k) a 0).2.2 = 1)
theorem Rdr.start {α : Type} {f : List UInt8 → Nat → Nat → α × Nat × Nat} (h : Rdr f) {bs : List UInt8} {a e a' : Nat} {x : α} (hx : f bs a e = (x, a', 0)) : e = 0 := by
  by_cases he : e = 0
  · exact he
  · have := h.err bs a e he
    rw [hx] at this
    exact this.symm
def seqP {α β : Type} (f : List UInt8 → Nat → Nat → α × Nat × Nat) (g : List UInt8 → Nat → Nat → β × Nat × Nat) : List UInt8 → Nat → Nat → (α × β) × Nat × Nat :=
  fun bs a e => (((f bs a e).1, (g bs (f bs a e).2.1 (f bs a e).2.2).1), (g bs (f bs a e).2.1 (f bs a e).2.2).2)
theorem Rdr.seq {α β : Type} {f : List UInt8 → Nat → Nat → α × Nat × Nat} {g : List UInt8 → Nat → Nat → β × Nat × Nat} (hf : Rdr f) (hg : Rdr g) : Rdr (seqP f g) := by
  have split : ∀ bs a x a', seqP f g bs a 0 = (x, a', 0) → ∃ a1, f bs a 0 = (x.1, a1, 0) ∧ g bs a1 0 = (x.2, a', 0) := by
    intro bs a x a' h
    obtain ⟨y, a1, e1, h1⟩ : ∃ Y A E, f bs a 0 = (Y, A, E) := ⟨_, _, _, rfl⟩
    obtain ⟨z, a2, e2, h2⟩ : ∃ Y A E, g bs a1 e1 = (Y, A, E) := ⟨_, _, _, rfl⟩
    simp only [seqP, h1, h2, Prod.mk.injEq] at h
    obtain ⟨rfl, rfl, rfl⟩ := h
    obtain rfl := hg.start h2
    exact ⟨a1, h1, h2⟩
  refine ⟨fun bs a e he => ?_, fun bs a x a' ha h => ?_, fun bs a k x a' hak hk h => ?_⟩
  · simp only [seqP]
    rw [hf.err bs a e he]
    exact hg.err _ _ _ he
  · obtain ⟨a1, h1, h2⟩ := split bs a x a' h
    have m1 := hf.mono _ _ _ _ ha h1
    have m2 := hg.mono _ _ _ _ m1.2 h2
    exact ⟨by omega, m2.2⟩
  · obtain ⟨a1, h1, h2⟩ := split bs a x a' h
    have m1 := hf.mono _ _ _ _ (by omega) h1
    have m2 := hg.mono _ _ _ _ m1.2 h2
    obtain ⟨p1, q1⟩ := hf.pre _ _ k _ _ hak hk h1
    refine ⟨fun hle => ?_, fun hlt => ?_⟩
    · have p2 := (hg.pre _ _ k _ _ (by omega) hk h2).1 hle
      simp only [seqP, p1 (by omega), p2]
    · by_cases hk1 : a1 ≤ k
      · have q2 := (hg.pre _ _ k _ _ hk1 hk h2).2 hlt
        simp only [seqP, p1 hk1, q2]
      · have := q1 (by omega)
        simp only [seqP]
        rw [this]
        exact hg.err _ _ _ (by omega)
theorem Rdr.map {α β : Type} {f : List UInt8 → Nat → Nat → α × Nat × Nat} (hf : Rdr f) (m : α → β) {g : List UInt8 → Nat → Nat → β × Nat × Nat} (hg : ∀ bs a e, g bs a e = (m (f bs a e).1, (f bs a e).2)) : Rdr g := by
  have split : ∀ bs a x a', g bs a 0 = (x, a', 0) → ∃ y, f bs a 0 = (y, a', 0) ∧ m y = x := by
    intro bs a x a' h
    rw [hg] at h
    simp only [Prod.mk.injEq] at h
    exact ⟨_, Prod.ext rfl h.2, h.1⟩
  refine ⟨fun bs a e he => by rw [hg]; exact hf.err _ _ _ he, fun bs a x a' ha h => ?_, fun bs a k x a' hak hk h => ?_⟩
  · obtain ⟨y, h1, _⟩ := split _ _ _ _ h
    exact hf.mono _ _ _ _ ha h1
  · obtain ⟨y, h1, h2⟩ := split _ _ _ _ h
    obtain ⟨p, q⟩ := hf.pre _ _ k _ _ hak hk h1
    exact ⟨fun hle => by rw [hg, p hle, h2], fun hlt => by rw [hg]; exact q hlt⟩
theorem Rdr.many {α : Type} {f : List UInt8 → Nat → Nat → α × Nat × Nat} (hf : Rdr f) : ∀ n, Rdr (fun bs => gMany (f bs) n)
  | 0 => ⟨fun _ _ _ _ => rfl, fun bs a x a' ha h => by
      simp only [gMany, Prod.mk.injEq] at h
      omega, fun bs a k x a' hak hk h => by
      simp only [gMany, Prod.mk.injEq] at h
      obtain ⟨rfl, rfl, _⟩ := h
      exact ⟨fun _ => rfl, fun hlt => by omega⟩⟩
  | n + 1 => by
    have ih := Rdr.many hf n
    have hs := Rdr.seq hf ih
    have e : ∀ bs a, gMany (f bs) (n + 1) a 0 = ((seqP f (fun bs => gMany (f bs) n) bs a 0).1.1 :: (seqP f (fun bs => gMany (f bs) n) bs a 0).1.2, (seqP f (fun bs => gMany (f bs) n) bs a 0).2) := fun bs a => gMany_go _ _ _
    refine ⟨fun bs a e' he => by rw [gMany_stop _ _ _ _ he], fun bs a x a' ha h => ?_, fun bs a k x a' hak hk h => ?_⟩
    · rw [e] at h
      simp only [Prod.mk.injEq] at h
      exact hs.mono bs a (seqP f (fun bs => gMany (f bs) n) bs a 0).1 a' ha (Prod.ext rfl h.2)
    · rw [e] at h
      simp only [Prod.mk.injEq] at h
      obtain ⟨p, q⟩ := hs.pre bs a k (seqP f (fun bs => gMany (f bs) n) bs a 0).1 a' hak hk (Prod.ext rfl h.2)
      refine ⟨fun hle => ?_, fun hlt => by rw [e]; exact q hlt⟩
      rw [e, p hle, ← h.1]
theorem Rdr.take (sz : Nat) : Rdr (fun bs a e => sTake bs a e sz) := by
  refine ⟨fun bs a e he => by simp [sTake, he], fun bs a x a' ha h => ?_, fun bs a k x a' hak hk h => ?_⟩
  · obtain ⟨_, h1, h2, _, _⟩ := sTake_ok h ha
    omega
  · obtain ⟨_, h1, h2, h3, _⟩ := sTake_ok h (by omega)
    refine ⟨fun hle => ?_, fun hlt => ?_⟩
    · unfold sTake
      rw [if_neg (by simp), if_neg (by rw [List.length_take]; omega), h3, h1, seg, Nat.add_sub_cancel_left, List.drop_take, List.take_take, Nat.min_eq_left (by omega)]
    · unfold sTake
      rw [if_neg (by simp), if_pos (by rw [List.length_take]; omega)]
theorem get_pre (l : List UInt8) (n k j : Nat) (h : Cm.get l = (n, k, 0)) : (k ≤ j → Cm.get (l.take j) = (n, k, 0)) ∧ (j < k → (Cm.get (l.take j)).2.2 = 1) := by
  have hp := Cm.put_get l (by rw [h])
  rw [h] at hp
  obtain ⟨p1, p2, p3, p4, p5⟩ := hp
  dsimp only at p1 p2 p3 p4 p5
  refine ⟨fun hle => ?_, fun hlt => ?_⟩
  · have e : l.take j = Cm.put n ++ (l.take j).drop k := by
      rw [p1, List.drop_take]
      have := List.take_add (l := l) (i := k) (j := j - k)
      rw [show k + (j - k) = j by omega] at this
      rw [this]
    rw [e, Cm.get_put n p4, ← p5]
  · have e : l.take j = (Cm.put n).take j := by rw [p1, List.take_take, Nat.min_eq_left (by omega)]
    rw [e]
    exact Cm.get_short n p4 j (by omega)
theorem bounded_pre (l : List UInt8) (most n k j : Nat) (h : Cm.bounded l most = (n, k, 0)) : (k ≤ j → Cm.bounded (l.take j) most = (n, k, 0)) ∧ (j < k → (Cm.bounded (l.take j) most).2.2 = 1) := by
  obtain ⟨x, y, e, hg⟩ : ∃ X Y E, Cm.get l = (X, Y, E) := ⟨_, _, _, rfl⟩
  unfold Cm.bounded at h
  rw [hg] at h
  simp only at h
  split at h
  · rename_i h0
    simp only [Prod.mk.injEq] at h
    exact absurd h.2.2 h0
  · rename_i h0
    have h0' : e = 0 := by simpa using h0
    subst h0'
    split at h
    · simp at h
    · rename_i h1
      simp only [Prod.mk.injEq] at h
      obtain ⟨rfl, rfl, _⟩ := h
      obtain ⟨p, q⟩ := get_pre l x y j hg
      refine ⟨fun hle => ?_, fun hlt => ?_⟩
      · unfold Cm.bounded
        rw [p hle]
        simp only
        rw [if_neg (by simp), if_neg h1]
      · unfold Cm.bounded
        rw [if_pos (by rw [q hlt]; simp)]
        exact q hlt
theorem Rdr.count (most : Nat) : Rdr (fun bs a e => sCount bs a e most) := by
  refine ⟨fun bs a e he => by simp [sCount, he], fun bs a x a' ha h => ?_, fun bs a k x a' hak hk h => ?_⟩
  · obtain ⟨_, h1, h2, _⟩ := sCount_ok h ha
    exact ⟨h1, h2⟩
  · obtain ⟨n, j, e, hb⟩ : ∃ X Y E, Cm.bounded (bs.drop a) most = (X, Y, E) := ⟨_, _, _, rfl⟩
    simp only [sCount, hb] at h
    rw [if_neg (by simp)] at h
    simp only [Prod.mk.injEq] at h
    obtain ⟨rfl, rfl, rfl⟩ := h
    obtain ⟨p, q⟩ := bounded_pre (bs.drop a) most n j (k - a) hb
    rw [List.take_drop, show a + (k - a) = k by omega] at p q
    refine ⟨fun hle => ?_, fun hlt => ?_⟩
    · unfold sCount
      rw [if_neg (by simp), p (by omega)]
    · unfold sCount
      rw [if_neg (by simp)]
      exact q (by omega)
theorem Rdr.script : Rdr sScript := by
  refine ⟨fun bs a e he => by simp [sScript, he], fun bs a x a' ha h => ?_, fun bs a k x a' hak hk h => ?_⟩
  · obtain ⟨_, h1, h2, _⟩ := sScript_ok h ha
    exact ⟨h1, h2⟩
  · obtain ⟨_, h1, h2, h3, h4⟩ := sScript_ok h (by omega)
    have hb := bounded_app x x.length 10000 h4 (by omega)
    have hl : (Cm.put x.length ++ x).length = a' - a := by rw [h3, seg, List.length_take, List.length_drop]; omega
    have hd : bs.drop a = (Cm.put x.length ++ x) ++ bs.drop a' := by
      rw [h3, seg]
      have := List.take_append_drop (a' - a) (bs.drop a)
      rw [List.drop_drop, show a + (a' - a) = a' by omega] at this
      exact this.symm
    rw [List.length_append] at hl
    refine ⟨fun hle => ?_, fun hlt => ?_⟩
    · have e : bs.take k = bs.take a ++ ((Cm.put x.length ++ x) ++ (bs.drop a').take (k - a')) := by
        rw [h3, seg]
        have e1 : bs.take k = bs.take a ++ (bs.drop a).take (k - a) := by
          have := List.take_add (l := bs) (i := a) (j := k - a)
          rw [show a + (k - a) = k by omega] at this
          exact this
        have e2 : (bs.drop a).take (k - a) = (bs.drop a).take (a' - a) ++ ((bs.drop a).drop (a' - a)).take (k - a') := by
          have := List.take_add (l := bs.drop a) (i := a' - a) (j := k - a')
          rw [show a' - a + (k - a') = k - a by omega] at this
          exact this
        rw [e1, e2, List.drop_drop, show a + (a' - a) = a' by omega]
      have hla : (bs.take a).length = a := by rw [List.length_take]; omega
      have := script_app (bs.take a) x ((bs.drop a').take (k - a')) h4
      rw [← e, hla, List.length_append] at this
      rw [this]
      simp only [Prod.mk.injEq, true_and, and_true]
      omega
    · have e1 : (bs.take k).drop a = ((Cm.put x.length ++ x) ++ bs.drop a').take (k - a) := by
        rw [List.drop_take, hd]
      unfold sScript
      rw [if_neg (by simp), e1]
      have hbl := bounded_app (x ++ bs.drop a') x.length 10000 h4 (by omega)
      rw [← List.append_assoc] at hbl
      obtain ⟨p, q⟩ := bounded_pre ((Cm.put x.length ++ x) ++ bs.drop a') 10000 x.length (Cm.put x.length).length (k - a) hbl
      unfold Cm.bytes
      simp only [show (10000 : Int).toNat = 10000 from rfl]
      by_cases hj : (Cm.put x.length).length ≤ k - a
      · rw [p hj]
        simp only
        rw [if_neg (by simp), if_neg (by simp), if_pos ?_]
        rw [List.length_take]
        omega
      · have hq := q (by omega)
        rw [if_pos (by rw [hq]; simp)]
        exact hq
theorem Rdr.gIn : Rdr Go.Proofs.YtopgljkfoogihaaDoor.gIn :=
  (((Rdr.take 32).seq (Rdr.take 4)).seq Rdr.script).seq (Rdr.take 4) |>.map (fun x => ⟨padH x.1.1.1, Cm.le x.1.1.2, x.1.2, Cm.le x.2⟩) fun _ _ _ => rfl
theorem Rdr.gOut : Rdr Go.Proofs.YtopgljkfoogihaaDoor.gOut :=
  ((Rdr.take 8).seq Rdr.script).map (fun x => ⟨Cm.le x.1, x.2⟩) fun _ _ _ => rfl
/-- EACH BEGINNING IS SHORT -/
theorem txGet_short (t : TTx) (h : t.ok) (hs : txSane t = true) (k : Nat) (hk : k < (txB t).length) : (txGet ((txB t).take k)).2.2 = 1 := by
  have hg := txGet_txB t h hs []
  rw [List.append_nil] at hg
  generalize txB t = bs at *
  have hN : 1 ≤ t.ins.length := ((txSane_iff t).1 hs).1.1
  have hT := (Rdr.take 4)
  have hC := (Rdr.count 1000)
  unfold txGet at hg ⊢
  obtain ⟨x0, a1, e1, h0⟩ : ∃ X Y Z, sTake bs 0 0 4 = (X, Y, Z) := ⟨_, _, _, rfl⟩
  obtain ⟨N, a2, e2, h1⟩ : ∃ X Y Z, sCount bs a1 e1 1000 = (X, Y, Z) := ⟨_, _, _, rfl⟩
  obtain ⟨e3, h3⟩ : ∃ e3, e3 = if e2 = 0 ∧ N = 0 then 2 else e2 := ⟨_, rfl⟩
  obtain ⟨ins, a4, e4, h4⟩ : ∃ X Y Z, gMany (Go.Proofs.YtopgljkfoogihaaDoor.gIn bs) N a2 e3 = (X, Y, Z) := ⟨_, _, _, rfl⟩
  obtain ⟨M, a5, e5, h5⟩ : ∃ X Y Z, sCount bs a4 e4 1000 = (X, Y, Z) := ⟨_, _, _, rfl⟩
  obtain ⟨outs, a6, e6, h6⟩ : ∃ X Y Z, gMany (Go.Proofs.YtopgljkfoogihaaDoor.gOut bs) M a5 e5 = (X, Y, Z) := ⟨_, _, _, rfl⟩
  obtain ⟨x7, a7, e7, h7⟩ : ∃ X Y Z, sTake bs a6 e6 4 = (X, Y, Z) := ⟨_, _, _, rfl⟩
  simp only [h0, h1, ← h3, h4, h5, h6, h7] at hg
  by_cases he : e7 = 0
  · subst he
    rw [if_neg (by simp)] at hg
    simp only [Prod.mk.injEq] at hg
    obtain ⟨_, rfl, _⟩ := hg
    have MI := Rdr.many Rdr.gIn N
    have MO := Rdr.many Rdr.gOut M
    obtain rfl := hT.start (f := fun bs a e => sTake bs a e 4) h7
    obtain rfl := MO.start (f := fun bs => gMany (Go.Proofs.YtopgljkfoogihaaDoor.gOut bs) M) h6
    obtain rfl := hC.start (f := fun bs a e => sCount bs a e 1000) h5
    obtain rfl := MI.start (f := fun bs => gMany (Go.Proofs.YtopgljkfoogihaaDoor.gIn bs) N) h4
    have hN0 : ¬ (e2 = 0 ∧ N = 0) := fun hc => by rw [if_pos hc] at h3; omega
    rw [if_neg hN0] at h3
    subst h3
    have hN2 : ¬ N = 0 := fun h => hN0 ⟨rfl, h⟩
    obtain rfl := hC.start (f := fun bs a e => sCount bs a e 1000) h1
    have m0 := hT.mono bs 0 x0 a1 (Nat.zero_le _) h0
    have m1 := hC.mono bs a1 N a2 m0.2 h1
    have m4 := MI.mono bs a2 ins a4 m1.2 h4
    have m5 := hC.mono bs a4 M a5 m4.2 h5
    have m6 := MO.mono bs a5 outs a6 m5.2 h6
    have last : ∀ l : List UInt8 × Nat × Nat, l.2.2 = 1 → ∀ T : TTx, (if l.2.2 ≠ 0 then ((⟨0, [], [], 0⟩ : TTx), 0, l.2.2) else (T, l.2.1, 0)).2.2 = 1 := fun l hl T => by rw [if_pos (by omega)]; exact hl
    obtain ⟨p0, q0⟩ := hT.pre bs 0 k x0 a1 (Nat.zero_le _) (by omega) h0
    by_cases c0 : a1 ≤ k
    · obtain ⟨p1, q1⟩ := hC.pre bs a1 k N a2 c0 (by omega) h1
      by_cases c1 : a2 ≤ k
      · obtain ⟨p4, q4⟩ := MI.pre bs a2 k ins a4 c1 (by omega) h4
        by_cases c4 : a4 ≤ k
        · obtain ⟨p5, q5⟩ := hC.pre bs a4 k M a5 c4 (by omega) h5
          by_cases c5 : a5 ≤ k
          · obtain ⟨p6, q6⟩ := MO.pre bs a5 k outs a6 c5 (by omega) h6
            by_cases c6 : a6 ≤ k
            · obtain ⟨p7, q7⟩ := hT.pre bs a6 k x7 bs.length c6 (by omega) h7
              have P0 := p0 c0
              have P1 := p1 c1
              have P4 := p4 c4
              have P5 := p5 c5
              have P6 := p6 c6
              simp only [P0, P1, hN2, and_false, ↓reduceIte, P4, P5, P6]
              exact last _ (q7 hk) _
            · have P0 := p0 c0
              have P1 := p1 c1
              have P4 := p4 c4
              have P5 := p5 c5
              have Q6 := q6 (by omega)
              simp only [P0, P1, hN2, and_false, ↓reduceIte, P4, P5]
              refine last _ ?_ _
              rw [Q6]
              exact hT.err _ _ 1 (by omega)
          · have P0 := p0 c0
            have P1 := p1 c1
            have P4 := p4 c4
            have Q5 := q5 (by omega)
            simp only [P0, P1, hN2, and_false, ↓reduceIte, P4]
            refine last _ ?_ _
            rw [Q5]
            have g := (Rdr.many Rdr.gOut (sCount (bs.take k) a4 0 1000).1).err (bs.take k) (sCount (bs.take k) a4 0 1000).2.1 1 (by omega)
            rw [g]
            exact hT.err _ _ 1 (by omega)
        · have P0 := p0 c0
          have P1 := p1 c1
          have Q4 := q4 (by omega)
          simp only [P0, P1, hN2, and_false, ↓reduceIte]
          refine last _ ?_ _
          rw [Q4, hC.err _ _ 1 (by omega)]
          have g := fun n a => (Rdr.many Rdr.gOut n).err (bs.take k) a 1 (by omega)
          rw [g]
          exact hT.err _ _ 1 (by omega)
      · have P0 := p0 c0
        have Q1 := q1 (by omega)
        simp only [P0]
        refine last _ ?_ _
        rw [Q1, if_neg (by omega)]
        have g := fun n a => (Rdr.many Rdr.gIn n).err (bs.take k) a 1 (by omega)
        have g2 := fun n a => (Rdr.many Rdr.gOut n).err (bs.take k) a 1 (by omega)
        rw [g, hC.err _ _ 1 (by omega), g2]
        exact hT.err _ _ 1 (by omega)
    · have Q0 := q0 (by omega)
      refine last _ ?_ _
      have g := fun n a => (Rdr.many Rdr.gIn n).err (bs.take k) a 1 (by omega)
      have g2 := fun n a => (Rdr.many Rdr.gOut n).err (bs.take k) a 1 (by omega)
      rw [Q0, hC.err _ _ 1 (by omega), if_neg (by omega), g, hC.err _ _ 1 (by omega), g2]
      exact hT.err _ _ 1 (by omega)
  · rw [if_pos he] at hg
    simp only [Prod.mk.injEq] at hg
    exact absurd hg.2.2 he
end Go.Proofs.YtopgljkfoogihaaDoor
