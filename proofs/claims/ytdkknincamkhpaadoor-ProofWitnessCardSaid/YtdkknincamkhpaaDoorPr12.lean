/- Qs; Qf: put together for the claim. -/
import Derived.Test.YtdkknincamkhpaaDoorPr11
/- The texts that a climb hashes, and what witnesses against two: plain laws. -/
namespace Go.Proofs.YtdkknincamkhpaaDoor
/-- the texts that a climb hashes -/
def qSt : List UInt8 → List (List UInt8) → Nat → List (List UInt8)
  | _, [], _ => []
  | x, o :: r, i => if i % 2 = 1 then (o ++ x) :: qSt (pairB o x) r (i / 2) else (x ++ o) :: qSt (pairB x o) r (i / 2)
theorem qSt_length : ∀ (x : List UInt8) (p : List (List UInt8)) (i : Nat), (qSt x p i).length = p.length
  | _, [], _ => rfl
  | x, o :: r, i => by
    rw [qSt]
    split
    · rw [List.length_cons, List.length_cons, qSt_length]
    · rw [List.length_cons, List.length_cons, qSt_length]
theorem qSt_64 : ∀ (x : List UInt8) (p : List (List UInt8)) (i : Nat), x.length = 32 → All32 p → ∀ t ∈ qSt x p i, t.length = 64
  | _, [], _, _, _, _, ht => by cases ht
  | x, o :: r, i, hx, hp, t, ht => by
    have ho := hp o (List.mem_cons_self ..)
    have hr : All32 r := fun y hy => hp y (List.mem_cons_of_mem _ hy)
    rw [qSt] at ht
    split at ht
    · rcases List.mem_cons.1 ht with rfl | ht
      · rw [List.length_append, ho, hx]
      · exact qSt_64 _ r _ (pairB_length _ _) hr t ht
    · rcases List.mem_cons.1 ht with rfl | ht
      · rw [List.length_append, ho, hx]
      · exact qSt_64 _ r _ (pairB_length _ _) hr t ht
/-- what a climb has come to after so many texts -/
def qAt (x : List UInt8) (p : List (List UInt8)) (i k : Nat) : List UInt8 := mClimb x (p.take k) i
theorem qAt_zero (x : List UInt8) (p : List (List UInt8)) (i : Nat) : qAt x p i 0 = x := by rw [qAt, List.take_zero, mClimb]
theorem qAt_all (x : List UInt8) (p : List (List UInt8)) (i : Nat) : qAt x p i p.length = mClimb x p i := by rw [qAt, List.take_length]
theorem qAt_length (x : List UInt8) (p : List (List UInt8)) (i k : Nat) (hx : x.length = 32) : (qAt x p i k).length = 32 := mClimb_length _ _ _ hx
/-- each text: what the climb has come to, and what it is paired with -/
theorem qSt_get : ∀ (p : List (List UInt8)) (x : List UInt8) (i k : Nat), k < p.length →
    (qSt x p i)[k]? = some (if i / 2 ^ k % 2 = 1 then p.getD k [] ++ qAt x p i k else qAt x p i k ++ p.getD k []) ∧ qAt x p i (k + 1) = dblB ((qSt x p i).getD k [])
  | [], _, _, _, hk => absurd hk (by simp)
  | o :: r, x, i, 0, _ => by
    rw [qAt_zero, Nat.pow_zero, Nat.div_one, qSt, qAt, List.take_succ_cons, List.take_zero, mClimb, mClimb, mClimb]
    split
    · exact ⟨rfl, rfl⟩
    · exact ⟨rfl, rfl⟩
  | o :: r, x, i, k + 1, hk => by
    have e : i / 2 ^ (k + 1) = i / 2 / 2 ^ k := by rw [Nat.pow_succ, Nat.mul_comm, Nat.div_div_eq_div_mul]
    have hk' : k < r.length := by simpa using hk
    rw [e, qSt, qAt, qAt, List.take_succ_cons, List.take_succ_cons, mClimb, mClimb, List.getD_cons_succ]
    by_cases hi : i % 2 = 1
    · simp only [if_pos hi, List.getElem?_cons_succ, List.getD_cons_succ]
      exact qSt_get r _ _ k hk'
    · simp only [if_neg hi, List.getElem?_cons_succ, List.getD_cons_succ]
      exact qSt_get r _ _ k hk'
/-- a text begins or ends with what the climb has come to -/
theorem qSt_holds (p : List (List UInt8)) (h32 : All32 p) (x : List UInt8) (hx : x.length = 32) (i k : Nat) (hk : k < p.length) :
    ((qSt x p i).getD k []).take 32 = qAt x p i k ∨ ((qSt x p i).getD k []).drop 32 = qAt x p i k := by
  rw [List.getD_eq_getElem?_getD, (qSt_get p x i k hk).1, Option.getD_some]
  have h1 := h32.get k hk
  have h2 := qAt_length x p i k hx
  split
  · right
    rw [← h1, List.drop_left]
  · left
    rw [← h2, List.take_left]
/-- the first place where two lists of texts have one double sum -/
def qFst : List (List UInt8) → List (List UInt8) → Option (List UInt8 × List UInt8)
  | a :: l, b :: m => if dblB a = dblB b then some (a, b) else qFst l m
  | _, _ => none
/-- what witnesses: a pair of texts -/
def qWit (p : List UInt8 × List UInt8) : List UInt8 × List UInt8 := if sumB p.1 = sumB p.2 then p else (sumB p.1, sumB p.2)
/-- two unlike leaves that climb to one root: there is a place where unlike texts have one double sum -/
theorem qFst_some : ∀ (p q : List (List UInt8)) (x y : List UInt8) (i : Nat), p.length = q.length → All32 p → All32 q → x.length = 32 → y.length = 32 → x ≠ y → mClimb x p i = mClimb y q i →
    ∃ s, qFst (qSt x p i) (qSt y q i) = some s ∧ s.1 ≠ s.2 ∧ dblB s.1 = dblB s.2
  | [], [], x, y, i, _, _, _, _, _, hne, he => absurd he (by rw [mClimb, mClimb]; exact hne)
  | [], _ :: _, _, _, _, hl, _, _, _, _, _, _ => absurd hl (by simp)
  | _ :: _, [], _, _, _, hl, _, _, _, _, _, _ => absurd hl (by simp)
  | o :: p, u :: q, x, y, i, hl, hp, hq, hx, hy, hne, he => by
    have ho := hp o (List.mem_cons_self ..)
    have hu := hq u (List.mem_cons_self ..)
    have hp' : All32 p := fun z hz => hp z (List.mem_cons_of_mem _ hz)
    have hq' : All32 q := fun z hz => hq z (List.mem_cons_of_mem _ hz)
    have hl' : p.length = q.length := by simpa using hl
    rw [mClimb, mClimb] at he
    rw [qSt, qSt]
    by_cases hi : i % 2 = 1
    · rw [if_pos hi, if_pos hi] at he
      rw [if_pos hi, if_pos hi, qFst]
      by_cases hd : dblB (o ++ x) = dblB (u ++ y)
      · rw [if_pos hd]
        exact ⟨_, rfl, fun h => hne (List.append_inj_right h (ho.trans hu.symm)), hd⟩
      · rw [if_neg hd]
        exact qFst_some p q (pairB o x) (pairB u y) (i / 2) hl' hp' hq' (pairB_length o x) (pairB_length u y) hd he
    · rw [if_neg hi, if_neg hi] at he
      rw [if_neg hi, if_neg hi, qFst]
      by_cases hd : dblB (x ++ o) = dblB (y ++ u)
      · rw [if_pos hd]
        exact ⟨_, rfl, fun h => hne (List.append_inj_left h (hx.trans hy.symm)), hd⟩
      · rw [if_neg hd]
        exact qFst_some p q (pairB x o) (pairB y u) (i / 2) hl' hp' hq' (pairB_length x o) (pairB_length y u) hd he
/-- what witnesses does so -/
theorem qWit_spec (s : List UInt8 × List UInt8) (hne : s.1 ≠ s.2) (hd : dblB s.1 = dblB s.2) : (qWit s).1 ≠ (qWit s).2 ∧ sumB (qWit s).1 = sumB (qWit s).2 := by
  unfold dblB at hd
  by_cases h : sumB s.1 = sumB s.2
  · have e : qWit s = s := if_pos h
    rw [e]
    exact ⟨hne, h⟩
  · have e : qWit s = (sumB s.1, sumB s.2) := if_neg h
    rw [e]
    dsimp only
    exact ⟨h, hd⟩
end Go.Proofs.YtdkknincamkhpaaDoor
/- What a part tells at a place, its path, and what witnesses against two parts: plain model and laws. -/
namespace Go.Proofs.YtdkknincamkhpaaDoor
/-- the hash of the match at a place -/
def qFind (l : List (Nat × List UInt8)) (pos : Int) : Option (List UInt8) := (l.find? fun p => (p.1 : Int) == pos).map (·.2)
theorem qFind_cons (p : Nat × List UInt8) (l : List (Nat × List UInt8)) (pos : Int) : qFind (p :: l) pos = if (p.1 : Int) = pos then some p.2 else qFind l pos := by
  unfold qFind
  rw [List.find?_cons]
  by_cases h : (p.1 : Int) = pos
  · rw [if_pos h, show ((p.1 : Int) == pos) = true from beq_iff_eq.2 h]
    rfl
  · rw [if_neg h, show ((p.1 : Int) == pos) = false from beq_eq_false_iff_ne.2 h]
theorem qFind_mem : ∀ (l : List (Nat × List UInt8)) (pos : Int) (y : List UInt8), qFind l pos = some y → ∃ p : Nat, (p : Int) = pos ∧ (p, y) ∈ l
  | [], _, _, h => by cases h
  | p :: l, pos, y, h => by
    rw [qFind_cons] at h
    split at h
    · rename_i hp
      obtain rfl := Option.some.inj h
      exact ⟨p.1, hp, List.mem_cons_self ..⟩
    · obtain ⟨q, h1, h2⟩ := qFind_mem l pos y h
      exact ⟨q, h1, List.mem_cons_of_mem _ h2⟩
theorem qFind_of_mem : ∀ (l : List (Nat × List UInt8)) (p : Nat) (y : List UInt8), l.Pairwise (fun p q => p.1 < q.1) → (p, y) ∈ l → qFind l (p : Int) = some y
  | [], _, _, _, h => by cases h
  | a :: l, p, y, hw, h => by
    obtain ⟨h1, h2⟩ := List.pairwise_cons.1 hw
    rw [qFind_cons]
    rcases List.mem_cons.1 h with h | h
    · rw [← h, if_pos rfl]
    · have := h1 _ h
      dsimp only at this
      rw [if_neg (by omega)]
      exact qFind_of_mem l p y h2 h
theorem qFind_none (l : List (Nat × List UInt8)) (pos : Int) : qFind l pos = none ↔ ∀ p ∈ l, (p.1 : Int) ≠ pos := by
  unfold qFind
  rw [Option.map_eq_none_iff, List.find?_eq_none]
  constructor
  · intro h p hp e
    exact h p hp (beq_iff_eq.2 e)
  · intro h p hp e
    exact h p hp (beq_iff_eq.1 e)
/-- the root and the hash that a part tells at a place -/
def qFnd (tot : Nat) (hs : List (List UInt8)) (fl : List UInt8) (pos : Int) : Option (List UInt8 × List UInt8) := (pExt tot hs fl).bind fun r => (qFind r.l pos).map fun y => (r.x, y)
/-- what a place is paired with, up to the root -/
def qPath (tot : Nat) (hs : List (List UInt8)) (fl : List UInt8) (pos : Int) : List (List UInt8) := pPth tot fl hs pos.toNat (pHt tot) 0 0 0
theorem qExt_facts {tot : Nat} {hs : List (List UInt8)} {fl : List UInt8} {r : PRes} (h : pExt tot hs fl = some r) : 0 < tot ∧ tot ≤ 4096 ∧ pRd tot fl hs (pHt tot) 0 0 0 = some r ∧ 0 < pWd tot (pHt tot) := by
  unfold pExt at h
  split at h
  · rename_i hm
    unfold pMay at hm
    have hm := of_decide_eq_true hm
    refine ⟨by omega, hm.2.1, (Option.filter_eq_some_iff.1 h).1, ?_⟩
    have hp : 0 < 2 ^ pHt tot := Nat.pow_pos (by omega)
    unfold pWd
    exact Nat.div_pos (by omega) hp
  · cases h
theorem pExt_rise {tot : Nat} {hs : List (List UInt8)} {fl : List UInt8} {r : PRes} (h : pExt tot hs fl = some r) : r.l.Pairwise (fun p q => p.1 < q.1) := by
  obtain ⟨_, _, h1, h2⟩ := qExt_facts h
  exact (pRd_places tot fl hs _ _ _ _ r h2 h1).2
/-- a match climbs to the root -/
theorem qPath_climbs {tot : Nat} {hs : List (List UInt8)} {fl : List UInt8} {pos : Int} {x y : List UInt8} (h : qFnd tot hs fl pos = some (x, y)) : (qPath tot hs fl pos).length = pHt tot ∧ mClimb y (qPath tot hs fl pos) pos.toNat = x ∧ 0 ≤ pos ∧ tot ≤ 4096 ∧ pos < 4096 := by
  unfold qFnd at h
  obtain ⟨r, h1, h2⟩ := Option.bind_eq_some_iff.1 h
  obtain ⟨z, h3, h4⟩ := Option.map_eq_some_iff.1 h2
  injection h4 with h5 h6
  subst h5 h6
  obtain ⟨p, rfl, h6⟩ := qFind_mem _ _ _ h3
  obtain ⟨_, hb, h7, h8⟩ := qExt_facts h1
  have := pPth_in tot fl hs p z _ _ _ _ r h8 h7 h6
  have hp := ((pRd_places tot fl hs _ _ _ _ r h8 h7).1 _ h6).2.2
  dsimp only at hp
  exact ⟨this.1, this.2, by omega, hb, by omega⟩
theorem qPath_32 (tot : Nat) (hs : List (List UInt8)) (fl : List UInt8) (pos : Int) (h32 : All32 hs) : All32 (qPath tot hs fl pos) := pPth_32 tot fl hs h32 _ _ _ _ _
theorem qFnd_32 {tot : Nat} {hs : List (List UInt8)} {fl : List UInt8} {pos : Int} {x y : List UInt8} (h32 : All32 hs) (h : qFnd tot hs fl pos = some (x, y)) : x.length = 32 ∧ y.length = 32 := by
  unfold qFnd at h
  obtain ⟨r, h1, h2⟩ := Option.bind_eq_some_iff.1 h
  obtain ⟨z, h3, h4⟩ := Option.map_eq_some_iff.1 h2
  injection h4 with h5 h6
  subst h5 h6
  obtain ⟨p, _, h6⟩ := qFind_mem _ _ _ h3
  have := pRd_bounds tot fl hs h32 _ _ _ _ r (qExt_facts h1).2.2.1
  exact ⟨this.2.2.2.2.2.1, this.2.2.2.2.2.2 _ h6⟩
/-- what witnesses against two parts -/
def qClash (t1 : Nat) (hs1 : List (List UInt8)) (fl1 : List UInt8) (t2 : Nat) (hs2 : List (List UInt8)) (fl2 : List UInt8) (pos : Int) : Option (List UInt8 × List UInt8) :=
  (qFnd t1 hs1 fl1 pos).bind fun a => (qFnd t2 hs2 fl2 pos).bind fun b =>
    if a.1 = b.1 ∧ t1 = t2 ∧ a.2 ≠ b.2 then (qFst (qSt a.2 (qPath t1 hs1 fl1 pos) pos.toNat) (qSt b.2 (qPath t2 hs2 fl2 pos) pos.toNat)).map qWit else none
/-- who lies is witnessed against -/
theorem qClash_lies {t : Nat} {hs1 hs2 : List (List UInt8)} {fl1 fl2 : List UInt8} {pos : Int} {x y1 y2 : List UInt8} (g1 : All32 hs1) (g2 : All32 hs2) (h1 : qFnd t hs1 fl1 pos = some (x, y1)) (h2 : qFnd t hs2 fl2 pos = some (x, y2)) (hne : y1 ≠ y2) :
    ∃ s, qFst (qSt y1 (qPath t hs1 fl1 pos) pos.toNat) (qSt y2 (qPath t hs2 fl2 pos) pos.toNat) = some s ∧ qClash t hs1 fl1 t hs2 fl2 pos = some (qWit s) ∧ (qWit s).1 ≠ (qWit s).2 ∧ sumB (qWit s).1 = sumB (qWit s).2 := by
  obtain ⟨l1, c1, _⟩ := qPath_climbs h1
  obtain ⟨l2, c2, _⟩ := qPath_climbs h2
  obtain ⟨s, e, n1, n2⟩ := qFst_some _ _ y1 y2 pos.toNat (l1.trans l2.symm) (qPath_32 t hs1 fl1 pos g1) (qPath_32 t hs2 fl2 pos g2) (qFnd_32 g1 h1).2 (qFnd_32 g2 h2).2 hne (c1.trans c2.symm)
  obtain ⟨w1, w2⟩ := qWit_spec s n1 n2
  refine ⟨s, e, ?_, w1, w2⟩
  unfold qClash
  rw [h1, h2, Option.bind_some, Option.bind_some, if_pos ⟨rfl, rfl, hne⟩, e]
  rfl
end Go.Proofs.YtdkknincamkhpaaDoor
