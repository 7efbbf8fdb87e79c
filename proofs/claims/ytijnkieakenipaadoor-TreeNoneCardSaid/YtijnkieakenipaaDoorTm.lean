/- Trees of headers: what a tree is, plainly. -/
import Derived.Test.YtijnkieakenipaaDoorPr3
import Derived.Test.YtijnkieakenipaaDoorUx
namespace Go.Proofs.YtijnkieakenipaaDoor
open Go.RowKit
/-- a node of a tree -/
structure Nd where
  id : List UInt8
  head : Hd
  par : Int
  hgt : Nat
  wrk : Nat
/-- how much a hash for these bits is worth -/
def mWork (b : Nat) : Nat := match mExp b with
  | none => 0
  | some t => if 115792089237316195423570985008687907853269984665640564039457584007913129639936 ≤ t + 1 then 1 else ((115792089237316195423570985008687907853269984665640564039457584007913129639935 - t) / (t + 1) + 1) % 115792089237316195423570985008687907853269984665640564039457584007913129639936
/-- the number of the node with this id -/
def tFind (ns : List Nd) (x : List UInt8) : Option Nat := ns.findIdx? fun n => n.id == x
/-- the node that a header would be -/
def mNode (ns : List Nd) (h : Hd) : Option Nd :=
  if ns.length = 0 then some ⟨hdId h, h, -1, 0, mWork h.bits⟩
  else match tFind ns h.prev with
    | none => none
    | some i => match ns[i]? with
      | none => none
      | some n => some ⟨hdId h, h, (i : Int), n.hgt + 1, (n.wrk + mWork h.bits) % 115792089237316195423570985008687907853269984665640564039457584007913129639936⟩
/-- behind a header: the nodes, the number told, the error told -/
def mAdd (most : Nat) (ns : List Nd) (h : Hd) : List Nd × Int × Nat :=
  match tFind ns (hdId h) with
  | some i => (ns, (i : Int), 10)
  | none => match mNode ns h with
    | none => (ns, -1, 9)
    | some n => if most ≤ ns.length then (ns, -1, 12) else (ns ++ [n], (ns.length : Int), 0)
/-- a tree as it can be made -/
structure TOk (ns : List Nd) : Prop where
  head : ∀ (k : Nat) (n : Nd), ns[k]? = some n → n.head.ok ∧ n.id = hdId n.head ∧ n.wrk < 115792089237316195423570985008687907853269984665640564039457584007913129639936
  root : ∀ n : Nd, ns[0]? = some n → n.par = -1 ∧ n.hgt = 0 ∧ n.wrk = mWork n.head.bits
  step : ∀ (k : Nat) (n : Nd), ns[k]? = some n → k ≠ 0 → ∃ (p : Nat) (m : Nd), n.par = (p : Int) ∧ p < k ∧ ns[p]? = some m ∧ n.hgt = m.hgt + 1 ∧ n.wrk = (m.wrk + mWork n.head.bits) % 115792089237316195423570985008687907853269984665640564039457584007913129639936 ∧ n.head.prev = m.id
  apart : ∀ (i j : Nat) (n m : Nd), ns[i]? = some n → ns[j]? = some m → n.id = m.id → i = j
theorem mWork_lt (b : Nat) : mWork b < 115792089237316195423570985008687907853269984665640564039457584007913129639936 := by
  unfold mWork
  split
  · omega
  · split
    · omega
    · exact Nat.mod_lt _ (by omega)
theorem tFind_some {ns : List Nd} {x : List UInt8} {i : Nat} (h : tFind ns x = some i) : ∃ n, ns[i]? = some n ∧ n.id = x := by
  unfold tFind at h
  rw [List.findIdx?_eq_some_iff_getElem] at h
  obtain ⟨hi, h1, _⟩ := h
  exact ⟨ns[i], List.getElem?_eq_getElem hi, by simpa using h1⟩
theorem tFind_none {ns : List Nd} {x : List UInt8} (h : tFind ns x = none) : ∀ (i : Nat) (n : Nd), ns[i]? = some n → n.id ≠ x := by
  intro i n hi e
  unfold tFind at h
  rw [List.findIdx?_eq_none_iff] at h
  have := h n (List.mem_of_getElem? hi)
  simp [e] at this
theorem tFind_of {ns : List Nd} (ok : TOk ns) {i : Nat} {n : Nd} (h : ns[i]? = some n) : tFind ns n.id = some i := by
  cases hf : tFind ns n.id with
  | none => exact absurd rfl (tFind_none hf i n h)
  | some j =>
    obtain ⟨m, hm, he⟩ := tFind_some hf
    rw [ok.apart j i m n hm h he]
theorem tFind_lt {ns : List Nd} {x : List UInt8} {i : Nat} (h : tFind ns x = some i) : i < ns.length := by
  obtain ⟨n, hn, _⟩ := tFind_some h
  exact (List.getElem?_eq_some_iff.1 hn).1
theorem TOk.nil : TOk [] := ⟨by simp, by simp, by simp, by simp⟩
theorem mNode_id {ns : List Nd} {h : Hd} {n : Nd} (e : mNode ns h = some n) : n.id = hdId h ∧ n.head = h ∧ n.wrk < 115792089237316195423570985008687907853269984665640564039457584007913129639936 := by
  unfold mNode at e
  generalize hdId h = I at *
  split at e
  · have e := Option.some.inj e
    subst e
    exact ⟨rfl, rfl, mWork_lt _⟩
  · split at e
    · cases e
    · split at e
      · cases e
      · have e := Option.some.inj e
        subst e
        refine ⟨rfl, rfl, ?_⟩
        dsimp only
        exact Nat.mod_lt _ (by omega)
theorem snoc_at {α : Type} {l : List α} {x y : α} {k : Nat} (h : (l ++ [x])[k]? = some y) : (l[k]? = some y ∧ k < l.length) ∨ (k = l.length ∧ y = x) := by
  by_cases hk : k < l.length
  · rw [List.getElem?_append_left hk] at h
    exact .inl ⟨h, hk⟩
  · have hl := (List.getElem?_eq_some_iff.1 h).1
    rw [List.length_append, List.length_singleton] at hl
    have : k = l.length := by omega
    subst this
    simp at h
    exact .inr ⟨rfl, h.symm⟩
theorem snoc_left {α : Type} {l : List α} {x y : α} {k : Nat} (h : l[k]? = some y) : (l ++ [x])[k]? = some y := by
  rw [List.getElem?_append_left (List.getElem?_eq_some_iff.1 h).1]; exact h
theorem TOk.snoc {ns : List Nd} (ok : TOk ns) {h : Hd} (hh : h.ok) {n : Nd} (e : mNode ns h = some n) (hf : tFind ns (hdId h) = none) : TOk (ns ++ [n]) := by
  obtain ⟨e1, e2, e3⟩ := mNode_id e
  have hno := tFind_none hf
  constructor
  · intro k m hm
    rcases snoc_at hm with ⟨h1, _⟩ | ⟨_, rfl⟩
    · exact ok.head k m h1
    · exact ⟨by rw [e2]; exact hh, by rw [e1, e2], e3⟩
  · intro m hm
    rcases snoc_at hm with ⟨h1, _⟩ | ⟨h1, rfl⟩
    · exact ok.root m h1
    · unfold mNode at e
      rw [if_pos h1.symm] at e
      obtain rfl := Option.some.inj e; exact ⟨rfl, rfl, rfl⟩
  · intro k m hm hk
    rcases snoc_at hm with ⟨h1, _⟩ | ⟨h1, rfl⟩
    · obtain ⟨p, q, a, b, c, d⟩ := ok.step k m h1 hk
      exact ⟨p, q, a, b, snoc_left c, d⟩
    · unfold mNode at e
      rw [if_neg (by omega)] at e
      split at e
      · cases e
      · rename_i i hi
        obtain ⟨q, hq, hqi⟩ := tFind_some hi
        rw [hq] at e
        obtain rfl := Option.some.inj e
        exact ⟨i, q, rfl, by have := tFind_lt hi; omega, snoc_left hq, rfl, rfl, hqi.symm⟩
  · intro i j a b ha hb hab
    rcases snoc_at ha with ⟨h1, _⟩ | ⟨h1, rfl⟩ <;> rcases snoc_at hb with ⟨h2, _⟩ | ⟨h2, rfl⟩
    · exact ok.apart i j a b h1 h2 hab
    · exact absurd (hab.trans e1) (hno i a h1)
    · exact absurd (hab.symm.trans e1) (hno j b h2)
    · omega
theorem mAdd_ok {most : Nat} {ns : List Nd} (ok : TOk ns) {h : Hd} (hh : h.ok) : TOk (mAdd most ns h).1 := by
  unfold mAdd
  split
  · exact ok
  · split
    · exact ok
    · rename_i hf _ n hn
      split
      · exact ok
      · exact ok.snoc hh hn hf
/-- headers, one behind the other -/
def mAll (most : Nat) (l : List Hd) : List Nd := l.foldl (fun ns h => (mAdd most ns h).1) []
theorem mAll_snoc (most : Nat) (l : List Hd) (h : Hd) : mAll most (l ++ [h]) = (mAdd most (mAll most l) h).1 := by simp [mAll]
theorem mAdd_len (most : Nat) (ns : List Nd) (h : Hd) : (mAdd most ns h).1.length ≤ ns.length + 1 := by
  unfold mAdd
  repeat' split
  all_goals simp
theorem mAll_ok (most : Nat) (l : List Hd) (hl : ∀ h ∈ l, h.ok) : TOk (mAll most l) := by
  have : ∀ (l : List Hd) (ns : List Nd), (∀ h ∈ l, h.ok) → TOk ns → TOk (l.foldl (fun ns h => (mAdd most ns h).1) ns) := by
    intro l
    induction l with
    | nil => intro ns _ h; exact h
    | cons x l ih => intro ns h1 h2; exact ih _ (fun y hy => h1 y (List.mem_cons_of_mem _ hy)) (mAdd_ok h2 (h1 x List.mem_cons_self))
  exact this l [] hl TOk.nil
theorem mAll_take (most : Nat) (l : List Hd) (k : Nat) (h : Hd) (hk : l[k]? = some h) : mAll most (l.take (k + 1)) = (mAdd most (mAll most (l.take k)) h).1 := by
  rw [List.take_add_one, hk]; exact mAll_snoc _ _ _
theorem mAll_len (most : Nat) : ∀ (l : List Hd), (mAll most l).length ≤ l.length := by
  have : ∀ (l : List Hd) (ns : List Nd), (l.foldl (fun ns h => (mAdd most ns h).1) ns).length ≤ ns.length + l.length := by
    intro l
    induction l with
    | nil => intro ns; simp
    | cons x l ih => intro ns; have := ih (mAdd most ns x).1; have := mAdd_len most ns x; simp only [List.foldl_cons, List.length_cons]; omega
  intro l; simpa [mAll] using this l []
theorem mAll_mem (most : Nat) (l : List Hd) : ∀ n ∈ mAll most l, n.head ∈ l := by
  have : ∀ (l : List Hd) (ns : List Nd) (n : Nd), n ∈ l.foldl (fun ns h => (mAdd most ns h).1) ns → n ∈ ns ∨ n.head ∈ l := by
    intro l
    induction l with
    | nil => intro ns n h; exact .inl h
    | cons x l ih =>
      intro ns n h
      rcases ih _ n h with h1 | h1
      · dsimp only at h1
        unfold mAdd at h1
        split at h1
        · exact .inl h1
        · split at h1
          · exact .inl h1
          · rename_i m hm
            split at h1
            · exact .inl h1
            · simp at h1
              rcases h1 with h1 | rfl
              · exact .inl h1
              · right; rw [(mNode_id hm).2.1]; exact List.mem_cons_self
      · exact .inr (List.mem_cons_of_mem _ h1)
  intro n h
  rcases this l [] n h with h1 | h1
  · simp at h1
  · exact h1
theorem mAdd_0 (most : Nat) (h : Hd) (hm : 0 < most) : (mAdd most [] h).1.length = 1 := by
  unfold mAdd
  rw [show tFind [] (hdId h) = none from rfl]
  simp only [mNode, List.length_nil, if_true]
  rw [if_neg (by omega)]
  simp
theorem mAdd_ge (most : Nat) (ns : List Nd) (h : Hd) : ns.length ≤ (mAdd most ns h).1.length := by
  unfold mAdd
  repeat' split
  all_goals simp
theorem mAll_pos (most : Nat) (l : List Hd) (hm : 0 < most) (hl : 0 < l.length) : 0 < (mAll most l).length := by
  cases l with
  | nil => simp at hl
  | cons x l =>
    have : ∀ (l : List Hd) (ns : List Nd), ns.length ≤ (l.foldl (fun ns h => (mAdd most ns h).1) ns).length := by
      intro l
      induction l with
      | nil => intro ns; simp
      | cons x l ih => intro ns; exact Nat.le_trans (mAdd_ge most ns x) (ih _)
    have h1 := this l (mAdd most [] x).1
    have h2 := mAdd_0 most x hm
    simp only [mAll, List.foldl_cons]
    omega
/-- the number d steps down -/
def tPar (ns : List Nd) (i : Nat) : Nat := match ns[i]? with
  | some n => n.par.toNat
  | none => 0
def tHgt (ns : List Nd) (i : Nat) : Nat := match ns[i]? with
  | some n => n.hgt
  | none => 0
def tWrk (ns : List Nd) (i : Nat) : Nat := match ns[i]? with
  | some n => n.wrk
  | none => 0
def tAnc (ns : List Nd) (i : Nat) : Nat → Nat
  | 0 => i
  | d + 1 => tPar ns (tAnc ns i d)
theorem tAnc_add (ns : List Nd) (i : Nat) : ∀ (a b : Nat), tAnc ns (tAnc ns i a) b = tAnc ns i (a + b)
  | a, 0 => rfl
  | a, b + 1 => by rw [← Nat.add_assoc]; simp only [tAnc]; rw [tAnc_add ns i a b]
theorem tAt {ns : List Nd} {i : Nat} {n : Nd} (h : ns[i]? = some n) : tPar ns i = n.par.toNat ∧ tHgt ns i = n.hgt ∧ tWrk ns i = n.wrk := by
  simp [tPar, tHgt, tWrk, h]
theorem TOk.up {ns : List Nd} (ok : TOk ns) {i : Nat} (hi : i < ns.length) : (tHgt ns i = 0 ∧ i = 0) ∨ (i ≠ 0 ∧ tPar ns i < i ∧ tHgt ns i = tHgt ns (tPar ns i) + 1 ∧ tWrk ns i = (tWrk ns (tPar ns i) + mWork ((ns[i]).head.bits)) % 115792089237316195423570985008687907853269984665640564039457584007913129639936) := by
  have h := List.getElem?_eq_getElem hi
  obtain ⟨a, b, c⟩ := tAt h
  by_cases h0 : i = 0
  · subst h0
    exact .inl ⟨by rw [b]; exact (ok.root _ h).2.1, rfl⟩
  · obtain ⟨p, m, e1, e2, e3, e4, e5, _⟩ := ok.step i _ h h0
    obtain ⟨_, b2, c2⟩ := tAt e3
    have : tPar ns i = p := by rw [a, e1]; rfl
    rw [this]
    exact .inr ⟨h0, e2, by rw [b, b2, e4], by rw [c, c2, e5]⟩
theorem TOk.hgt_0 {ns : List Nd} (ok : TOk ns) {i : Nat} (hi : i < ns.length) : tHgt ns i = 0 ↔ i = 0 := by
  rcases ok.up hi with ⟨a, b⟩ | ⟨a, _, b, _⟩ <;> omega
theorem TOk.anc {ns : List Nd} (ok : TOk ns) {i : Nat} (hi : i < ns.length) : ∀ d, d ≤ tHgt ns i → tAnc ns i d < ns.length ∧ tHgt ns (tAnc ns i d) = tHgt ns i - d ∧ tAnc ns i d + d ≤ i
  | 0, _ => ⟨hi, by simp [tAnc], by simp [tAnc]⟩
  | d + 1, hd => by
    obtain ⟨a, b, c⟩ := ok.anc hi d (by omega)
    rcases ok.up a with ⟨e, _⟩ | ⟨_, e1, e2, _⟩
    · omega
    · simp only [tAnc]
      omega
theorem TOk.hgt_le {ns : List Nd} (ok : TOk ns) {i : Nat} (hi : i < ns.length) : tHgt ns i ≤ i := by
  have := (ok.anc hi _ (Nat.le_refl _)).2.2
  omega
theorem TOk.anc_root {ns : List Nd} (ok : TOk ns) {i : Nat} (hi : i < ns.length) : tAnc ns i (tHgt ns i) = 0 := by
  obtain ⟨a, b, _⟩ := ok.anc hi _ (Nat.le_refl _)
  rw [← ok.hgt_0 a]; omega
/-- the numbers up to one -/
def mLine (ns : List Nd) (i : Nat) : List Nat := (List.range (tHgt ns i + 1)).map fun k => tAnc ns i (tHgt ns i - k)
theorem mLine_length (ns : List Nd) (i : Nat) : (mLine ns i).length = tHgt ns i + 1 := by simp [mLine]
theorem mLine_at (ns : List Nd) (i k : Nat) (h : k ≤ tHgt ns i) : (mLine ns i)[k]? = some (tAnc ns i (tHgt ns i - k)) := by
  simp [mLine, List.getElem?_range (show k < tHgt ns i + 1 by omega)]
/-- the last one in two lines -/
def mCom (ns : List Nd) : Nat → Nat → Nat → Nat
  | 0, i, _ => i
  | f + 1, i, j => if i = j then i else if j < i then mCom ns f (tPar ns i) j else mCom ns f i (tPar ns j)
/-- is one in the line of another? -/
def tIn (ns : List Nd) (c i : Nat) : Prop := ∃ d, d ≤ tHgt ns i ∧ tAnc ns i d = c
theorem tIn_self (ns : List Nd) (i : Nat) : tIn ns i i := ⟨0, Nat.zero_le _, rfl⟩
theorem tIn_down {ns : List Nd} (ok : TOk ns) {c i : Nat} (hi : i < ns.length) (h : tIn ns c i) (hne : c ≠ i) : i ≠ 0 ∧ tPar ns i < i ∧ tIn ns c (tPar ns i) := by
  obtain ⟨d, hd, e⟩ := h
  cases d with
  | zero => exact absurd e.symm hne
  | succ d =>
    rcases ok.up hi with ⟨a, _⟩ | ⟨a, b, c', _⟩
    · omega
    · refine ⟨a, b, d, by omega, ?_⟩
      rw [← e, show tPar ns i = tAnc ns i 1 from rfl, tAnc_add, Nat.add_comm]
theorem tIn_up {ns : List Nd} (ok : TOk ns) {c i : Nat} (hi : i < ns.length) (h0 : i ≠ 0) (h : tIn ns c (tPar ns i)) : tIn ns c i := by
  obtain ⟨d, hd, e⟩ := h
  rcases ok.up hi with ⟨_, a⟩ | ⟨a, b, c', _⟩
  · omega
  · refine ⟨d + 1, by omega, ?_⟩
    rw [← e, show tPar ns i = tAnc ns i 1 from rfl, tAnc_add, Nat.add_comm]
theorem tIn_le {ns : List Nd} (ok : TOk ns) {c i : Nat} (hi : i < ns.length) (h : tIn ns c i) : c ≤ i ∧ c < ns.length ∧ tHgt ns c ≤ tHgt ns i := by
  obtain ⟨d, hd, e⟩ := h
  obtain ⟨a, b, c'⟩ := ok.anc hi d hd
  rw [e] at a b c'
  omega
theorem mCom_spec {ns : List Nd} (ok : TOk ns) : ∀ (f i j : Nat), i + j < f → i < ns.length → j < ns.length → tIn ns (mCom ns f i j) i ∧ tIn ns (mCom ns f i j) j ∧ ∀ c, tIn ns c i → tIn ns c j → tIn ns c (mCom ns f i j)
  | 0, i, j, h, _, _ => by omega
  | f + 1, i, j, h, hi, hj => by
    rw [mCom]
    split
    · rename_i e; subst e
      exact ⟨tIn_self _ _, tIn_self _ _, fun c h _ => h⟩
    · rename_i hne
      split
      · rename_i hlt
        have hz : i ≠ 0 := by omega
        rcases ok.up hi with ⟨_, a⟩ | ⟨_, b, _, _⟩
        · omega
        · obtain ⟨r1, r2, r3⟩ := mCom_spec ok f (tPar ns i) j (by omega) (by omega) hj
          refine ⟨tIn_up ok hi hz r1, r2, fun c h1 h2 => ?_⟩
          have := (tIn_le ok hj h2).1
          exact r3 c (tIn_down ok hi h1 (by omega)).2.2 h2
      · have hz : j ≠ 0 := by omega
        rcases ok.up hj with ⟨_, a⟩ | ⟨_, b, _, _⟩
        · omega
        · obtain ⟨r1, r2, r3⟩ := mCom_spec ok f i (tPar ns j) (by omega) hi (by omega)
          refine ⟨r1, tIn_up ok hj hz r2, fun c h1 h2 => ?_⟩
          have := (tIn_le ok hi h1).1
          exact r3 c h1 (tIn_down ok hj h2 (by omega)).2.2
theorem tIn_anti {ns : List Nd} (ok : TOk ns) {a b : Nat} (ha : a < ns.length) (hb : b < ns.length) (h1 : tIn ns a b) (h2 : tIn ns b a) : a = b := by
  have := (tIn_le ok hb h1).1
  have := (tIn_le ok ha h2).1
  omega
theorem mCom_comm {ns : List Nd} (ok : TOk ns) (f g i j : Nat) (hf : i + j < f) (hg : j + i < g) (hi : i < ns.length) (hj : j < ns.length) : mCom ns f i j = mCom ns g j i := by
  obtain ⟨a1, a2, a3⟩ := mCom_spec ok f i j hf hi hj
  obtain ⟨b1, b2, b3⟩ := mCom_spec ok g j i hg hj hi
  exact tIn_anti ok (tIn_le ok hi a1).2.1 (tIn_le ok hj b1).2.1 (b3 _ a2 a1) (a3 _ b2 b1)
theorem tIn_above {ns : List Nd} (ok : TOk ns) {c i : Nat} (hi : i < ns.length) (h : tIn ns c i) : tAnc ns i (tHgt ns i - tHgt ns c) = c := by
  obtain ⟨d, hd, e⟩ := h
  obtain ⟨a, b, _⟩ := ok.anc hi d hd
  rw [e] at b
  rw [b, show tHgt ns i - (tHgt ns i - d) = d by omega, e]
/-- the ones that are no one's parent -/
def mTip (ns : List Nd) (i : Nat) : Bool := !ns.any fun n => n.par == (i : Int)
def mTips (ns : List Nd) : List Nat := (List.range ns.length).filter (mTip ns)
theorem mTip_not {ns : List Nd} (ok : TOk ns) {i : Nat} (h : mTip ns i = false) : ∃ c, c < ns.length ∧ i < c ∧ tPar ns c = i := by
  simp only [mTip, Bool.not_eq_false', List.any_eq_true, beq_iff_eq] at h
  obtain ⟨n, hn, e⟩ := h
  obtain ⟨c, hc, rfl⟩ := List.getElem_of_mem hn
  have hc' := List.getElem?_eq_getElem hc
  refine ⟨c, hc, ?_, by rw [(tAt hc').1, e]; rfl⟩
  by_cases h0 : c = 0
  · subst h0
    rw [(ok.root _ hc').1] at e
    omega
  · obtain ⟨p, _, e1, e2, _⟩ := ok.step c _ hc' h0
    omega
theorem leads {ns : List Nd} (ok : TOk ns) : ∀ (f i : Nat), ns.length < i + f → i < ns.length → ∃ t, t ∈ mTips ns ∧ tIn ns i t
  | 0, i, h, hi => by omega
  | f + 1, i, h, hi => by
    cases ht : mTip ns i with
    | true => exact ⟨i, by simp [mTips, hi, ht], tIn_self _ _⟩
    | false =>
      obtain ⟨c, hc, hlt, e⟩ := mTip_not ok ht
      obtain ⟨t, h1, h2⟩ := leads ok f c (by omega) hc
      have ht' : t < ns.length := by simp [mTips] at h1; exact h1.1
      refine ⟨t, h1, ?_⟩
      obtain ⟨d, hd, e2⟩ := h2
      obtain ⟨a, b, _⟩ := ok.anc ht' d hd
      rw [e2] at a b
      rcases ok.up a with ⟨_, a⟩ | ⟨_, _, b2, _⟩
      · omega
      · refine ⟨d + 1, by omega, ?_⟩
        simp only [tAnc]
        rw [e2, e]
def tBest (ns : List Nd) : Nat → Nat
  | 0 => 0
  | k + 1 => if tWrk ns (tBest ns k) < tWrk ns k then k else tBest ns k
/-- the one with the most work -/
def mBest (ns : List Nd) : Nat := tBest ns ns.length
theorem tBest_spec (ns : List Nd) : ∀ k, 0 < k → tBest ns k < k ∧ (∀ i, i < k → tWrk ns i ≤ tWrk ns (tBest ns k)) ∧ ∀ i, i < tBest ns k → tWrk ns i < tWrk ns (tBest ns k)
  | 0, h => by omega
  | k + 1, _ => by
    rw [tBest]
    by_cases hk : k = 0
    · subst hk
      simp [tBest]
    · obtain ⟨a, b, c⟩ := tBest_spec ns k (by omega)
      split
      · rename_i hlt
        refine ⟨by omega, fun i hi => ?_, fun i hi => ?_⟩
        · by_cases e : i = k
          · rw [e]; exact Nat.le_refl _
          · have := b i (by omega); omega
        · have := b i hi; omega
      · rename_i hge
        refine ⟨by omega, fun i hi => ?_, c⟩
        by_cases e : i = k
        · rw [e]; omega
        · exact b i (by omega)
theorem tBest_lt (ns : List Nd) (k n : Nat) (h : k ≤ n) (hn : 0 < n) : tBest ns k < n := by
  cases k with
  | zero => exact hn
  | succ k => have := (tBest_spec ns (k + 1) (by omega)).1; omega
def easyB (b : Nat) : Bool := decide (538968063 ≤ b) && decide (b ≤ 545259519)
theorem mWork_easy {b : Nat} (h : easyB b = true) : 0 < mWork b ∧ mWork b ≤ 33554432 := by
  unfold easyB at h
  simp only [Bool.and_eq_true, decide_eq_true_eq] at h
  obtain ⟨h1, h2⟩ := h
  obtain ⟨m, hm⟩ : ∃ m, b = 536870912 + m := ⟨b - 536870912, by omega⟩
  have e1 : b % 8388608 = m := by omega
  have e2 : b / 8388608 % 2 = 0 := by omega
  have e3 : b / 16777216 = 32 := by omega
  have hx : mExp b = some (m * 6901746346790563787434755862277025452451108972170386555162524223799296) := by
    unfold mExp
    rw [e1, e2, e3, if_neg (by omega), if_neg (by omega), if_neg (by omega), show 2 ^ (8 * (32 - 3)) = 6901746346790563787434755862277025452451108972170386555162524223799296 from by decide, if_neg (by omega)]
  unfold mWork
  rw [hx]
  dsimp only
  obtain ⟨T, hT⟩ : ∃ T, T = m * 6901746346790563787434755862277025452451108972170386555162524223799296 := ⟨_, rfl⟩
  rw [← hT, if_neg (by omega)]
  have hd : (115792089237316195423570985008687907853269984665640564039457584007913129639935 - T) / (T + 1) ≤ 16777216 := by
    refine Nat.div_le_of_le_mul ?_
    have : 6901746346790563787434755862277025452451108972170386555162524223799296 ≤ T + 1 := by omega
    omega
  generalize (115792089237316195423570985008687907853269984665640564039457584007913129639935 - T) / (T + 1) = q at *
  rw [Nat.mod_eq_of_lt (by omega)]
  omega
theorem wrk_easy {ns : List Nd} (ok : TOk ns) (hn : ns.length ≤ 1000) (he : ∀ n ∈ ns, easyB n.head.bits = true) : ∀ (f i : Nat), i < f → i < ns.length → tWrk ns i ≤ (i + 1) * 33554432
  | 0, i, h, _ => by omega
  | f + 1, i, h, hi => by
    have hw := mWork_easy (he _ (List.getElem_mem hi))
    rcases ok.up hi with ⟨_, h0⟩ | ⟨_, b, _, d⟩
    · subst h0
      have hc := List.getElem?_eq_getElem hi
      rw [(tAt hc).2.2, (ok.root _ hc).2.2]
      omega
    · have := wrk_easy ok hn he f (tPar ns i) (by omega) (by omega)
      rw [d]
      refine Nat.le_trans (Nat.mod_le _ _) ?_
      omega
theorem wrk_child {ns : List Nd} (ok : TOk ns) (hn : ns.length ≤ 1000) (he : ∀ n ∈ ns, easyB n.head.bits = true) {i : Nat} (hi : i < ns.length) (h0 : i ≠ 0) : tWrk ns (tPar ns i) < tWrk ns i := by
  have hw := mWork_easy (he _ (List.getElem_mem hi))
  rcases ok.up hi with ⟨_, h0'⟩ | ⟨_, b, _, d⟩
  · exact absurd h0' h0
  · have := wrk_easy ok hn he (tPar ns i + 1) (tPar ns i) (by omega) (by omega)
    rw [d, Nat.mod_eq_of_lt (by omega)]
    omega
theorem best_tip {ns : List Nd} (ok : TOk ns) (hn : ns.length ≤ 1000) (h0 : 0 < ns.length) (he : ∀ n ∈ ns, easyB n.head.bits = true) : mBest ns ∈ mTips ns := by
  obtain ⟨a, b, _⟩ := tBest_spec ns ns.length h0
  have e : mBest ns = tBest ns ns.length := rfl
  rw [← e] at a b
  simp only [mTips, List.mem_filter, List.mem_range]
  refine ⟨a, ?_⟩
  cases ht : mTip ns (mBest ns) with
  | true => rfl
  | false =>
    obtain ⟨c, hc, hlt, e2⟩ := mTip_not ok ht
    have := wrk_child ok hn he hc (by omega)
    rw [e2] at this
    have := b c hc
    omega
theorem filter_one {p : Nat} : ∀ (l : List Nat), l.Nodup → l.length ≤ (l.filter fun i => !(i == p)).length + 1
  | [], _ => by simp
  | x :: l, h => by
    rw [List.nodup_cons] at h
    have ih := filter_one (p := p) l h.2
    by_cases e : x = p
    · subst e
      have : l.filter (fun i => !(i == x)) = l := by
        rw [List.filter_eq_self]
        intro a ha
        simp only [Bool.not_eq_true', beq_eq_false_iff_ne]
        intro e; exact h.1 (e ▸ ha)
      simp [this]
    · simp [e, ih]
theorem range_nodup (n : Nat) : (List.range n).Nodup := List.nodup_range
theorem tips_snoc {ns : List Nd} (ok : TOk ns) {h : Hd} {n : Nd} (e : mNode ns h = some n) : (mTips ns).length ≤ (mTips (ns ++ [n])).length ∧ (mTips (ns ++ [n])).length ≤ (mTips ns).length + 1 := by
  have hp : n.par < ns.length ∧ ∀ m ∈ ns, m.par < ns.length := by
    refine ⟨?_, fun m hm => ?_⟩
    · unfold mNode at e
      split at e
      · obtain rfl := Option.some.inj e; simp; omega
      · split at e
        · cases e
        · rename_i i hi
          split at e
          · cases e
          · obtain rfl := Option.some.inj e
            have := tFind_lt hi
            simp; omega
    · obtain ⟨c, hc, rfl⟩ := List.getElem_of_mem hm
      have hc' := List.getElem?_eq_getElem hc
      by_cases h0 : c = 0
      · subst h0
        rw [(ok.root _ hc').1]; omega
      · obtain ⟨p, _, e1, e2, _⟩ := ok.step c _ hc' h0
        omega
  have hlast : mTip (ns ++ [n]) ns.length = true := by
    simp only [mTip, List.any_append, List.any_cons, List.any_nil, Bool.or_false, Bool.not_eq_true', Bool.or_eq_false_iff, List.any_eq_false, beq_iff_eq, beq_eq_false_iff_ne]
    refine ⟨fun m hm e => ?_, fun e => ?_⟩
    · have := hp.2 m hm; omega
    · have := hp.1; omega
  have hold : ∀ i, mTip (ns ++ [n]) i = (mTip ns i && !(i == n.par.toNat && decide (0 ≤ n.par))) := by
    intro i
    have : (n.par == (i : Int)) = (i == n.par.toNat && decide (0 ≤ n.par)) := by
      rw [Bool.eq_iff_iff]; simp; omega
    simp only [mTip, List.any_append, List.any_cons, List.any_nil, Bool.or_false, Bool.not_or, this]
  have hf : (mTips (ns ++ [n])) = ((List.range ns.length).filter (mTip (ns ++ [n]))) ++ [ns.length] := by
    unfold mTips
    rw [List.length_append, List.length_singleton, List.range_succ, List.filter_append]
    simp [hlast]
  rw [hf, List.length_append, List.length_singleton]
  have hsub : ((List.range ns.length).filter (mTip (ns ++ [n]))) = (mTips ns).filter fun i => !(i == n.par.toNat && decide (0 ≤ n.par)) := by
    unfold mTips
    rw [List.filter_filter]
    congr 1
    funext i
    rw [hold, Bool.and_comm]
  rw [hsub]
  refine ⟨?_, ?_⟩
  · by_cases h0 : 0 ≤ n.par
    · have := filter_one (p := n.par.toNat) (mTips ns) ((range_nodup _).sublist List.filter_sublist)
      simpa [h0] using this
    · rw [List.filter_eq_self.2 (fun i _ => by simp [h0])]; omega
  · have := List.length_filter_le (fun i => !(i == n.par.toNat && decide (0 ≤ n.par))) (mTips ns)
    omega
theorem tips_add {most : Nat} {ns : List Nd} (ok : TOk ns) (h : Hd) : (mTips ns).length ≤ (mTips (mAdd most ns h).1).length ∧ (mTips (mAdd most ns h).1).length ≤ (mTips ns).length + 1 ∧ ((mAdd most ns h).2.2 ≠ 0 → (mTips (mAdd most ns h).1).length = (mTips ns).length) := by
  unfold mAdd
  split
  · simp
  · split
    · simp
    · rename_i _ _ n hn
      split
      · simp
      · have := tips_snoc ok hn
        simp; omega
end Go.Proofs.YtijnkieakenipaaDoor
