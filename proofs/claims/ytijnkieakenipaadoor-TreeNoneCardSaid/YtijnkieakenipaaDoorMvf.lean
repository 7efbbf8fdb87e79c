/- A region that draws its order, whose first operation is a mere move: it is as if a later one waited for it. -/
import Derived.Test.YtijnkieakenipaaDoorRelT
namespace Go.Proofs.YtijnkieakenipaaDoor
open Go.RowKit
/-- operation n waits for operation 0 too -/
def waitOn : Nat → List Oper → List Oper
  | _, [] => []
  | 0, o :: r => ⟨o.dst, o.op, o.type, o.pos, o.after.push ⟨0, .data⟩, o.guard⟩ :: r
  | n + 1, o :: r => o :: waitOn n r
theorem waitOn_length : ∀ (n : Nat) (l : List Oper), (waitOn n l).length = l.length
  | _, [] => by rw [waitOn]
  | 0, _ :: _ => by rw [waitOn, List.length_cons, List.length_cons]
  | n + 1, _ :: r => by rw [waitOn, List.length_cons, List.length_cons, waitOn_length n r]
theorem waitOn_get : ∀ (n : Nat) (l : List Oper) (j : Nat), (waitOn n l)[j]? = (l[j]?).map fun o => if j = n then ⟨o.dst, o.op, o.type, o.pos, o.after.push ⟨0, .data⟩, o.guard⟩ else o
  | _, [], j => by rw [waitOn]; rfl
  | 0, o :: r, 0 => by rw [waitOn]; rfl
  | 0, o :: r, j + 1 => by
    rw [waitOn, List.getElem?_cons_succ, List.getElem?_cons_succ]
    cases r[j]? with
    | none => rfl
    | some x => simp
  | n + 1, o :: r, 0 => by rw [waitOn]; rfl
  | n + 1, o :: r, j + 1 => by
    rw [waitOn, List.getElem?_cons_succ, List.getElem?_cons_succ, waitOn_get n r j]
    cases r[j]? with
    | none => rfl
    | some x => simp
section
variable {P : Program} {Q : Exit → Act → World → Prop} {l : List Oper} {n : Nat}
theorem waitOn_yielded (tmps : Array Value) : yielded (waitOn n l).toArray tmps = yielded l.toArray tmps := by
  funext j
  unfold yielded
  have e : ((waitOn n l).toArray[j]?).bind (·.dst) = (l.toArray[j]?).bind (·.dst) := by
    simp only [List.getElem?_toArray, waitOn_get]
    cases l[j]? with
    | none => rfl
    | some o =>
      simp only [Option.map_some, Option.bind_some]
      split <;> rfl
  rw [e]
theorem waitOn_ready {listed : Array Bool} (h0 : listed.getD 0 false = true) : Region.ready .any (waitOn n l).toArray listed = Region.ready .any l.toArray listed := by
  unfold Region.ready
  simp only [List.size_toArray, waitOn_length]
  refine List.filter_congr fun j _ => ?_
  simp only [List.getElem?_toArray, waitOn_get]
  cases l[j]? with
  | none => rfl
  | some o =>
    simp only [Option.map_some, Option.getD_some]
    congr 1
    split
    · simp only [Array.all_push, h0, Bool.or_true, Bool.and_true]
    · rfl
theorem waitOn_op {i : Nat} {K : Act → World → Prop} {a : Act} {w : World} (h : wpOp P (waitOn n l).toArray Q i K a w) : wpOp P l.toArray Q i K a w := by
  unfold wpOp at h ⊢
  simp only [List.getElem?_toArray, waitOn_get, waitOn_yielded] at h ⊢
  cases hl : l[i]? with
  | none => rw [hl] at h; exact h
  | some o =>
    rw [hl] at h
    simp only [Option.map_some] at h ⊢
    split at h <;> exact h
theorem wpOp_imp {ops : Array Oper} {i : Nat} {K K' : Act → World → Prop} {a : Act} {w : World} (hk : ∀ a w, K a w → K' a w) (h : wpOp P ops Q i K a w) : wpOp P ops Q i K' a w := wpOp_mono hk h
theorem getD_keep {listed : Array Bool} (h0 : listed.getD 0 false = true) (i : Nat) : (listed.setIfInBounds i true).getD 0 false = true := by
  rw [Array.getD_eq_getD_getElem?] at h0 ⊢
  rw [Array.getElem?_setIfInBounds]
  split
  · split
    · rfl
    · rename_i h1 h2; subst h1; rw [Array.getElem?_eq_none (by omega)] at h0; cases h0
  · exact h0
theorem waitOn_any : ∀ (fuel : Nat) (listed : Array Bool) (a : Act) (w : World), listed.getD 0 false = true → wpAny P .any (waitOn n l).toArray Q fuel listed a w → wpAny P .any l.toArray Q fuel listed a w
  | 0, listed, a, w, h0, h => by
    unfold wpAny at h ⊢
    rw [waitOn_ready h0] at h
    exact h
  | fuel + 1, listed, a, w, h0, h => by
    unfold wpAny at h ⊢
    rw [waitOn_ready h0] at h
    exact ⟨h.1, fun i hi => wpOp_imp (fun a' w' h' => waitOn_any fuel _ a' w' (getD_keep h0 i) h') (waitOn_op (h.2 i hi))⟩
end
/-- **A region whose first operation is a move**, walked as if operation m waited for it. -/
theorem wp_region_relM {P : Program} {Q : Exit → Act → World → Prop} {id : Nat} {a : Act} {w : World} {l l' : List Oper} (m n : Nat) (L : List (Nat × VP)) (R : World → World → Prop) (hm : P.follows .mixedOrders = true) (hl : waitOn m l = l')
    {d : Option Tmp} {x : Operand} {tp : TypeId} {ps : String} {r : List Oper} (h0 : l = ⟨d, .move x, tp, ps, #[], none⟩ :: r) (hm0 : 0 < m) (hs : Region.noSelect l.toArray = true) (hf : Region.free .any l.toArray (Array.replicate l.toArray.size false) 0 = true)
    (hQ2 : ∀ c a' w, Q (.panic c) (a'.put d (a.eval x)) w → Q (.panic c) a' w)
    (hT : tailB l'.toArray n = true) (hB : relB l'.toArray (L.map (·.1)) = true)
    (hkn : L.all (fun p => decide (p.1 < n)) = true)
    (hrange : l'.all (fun o => match o.dst with | some d => decide (d < a.tmps.size) | none => true) = true)
    (hrefl : ∀ w, R w w) (htr : ∀ a b d, R a b → R b d → R a d) (hmono : ∀ p ∈ L, ∀ v w w', R w w' → p.2 v w → p.2 v w')
    (h : relWalk P l'.toArray R (fun _ a' w' => wpList P l'.toArray Q (l'.drop n) a' w') w.drew L 0 (l'.take n) a) : (Code.region id l.toArray true).wp P Q a w := by
  refine wp_region_any hm ?_
  have h1 := relT_wpAny n L R hT hB hkn hrange hrefl htr hmono h
  subst hl
  subst h0
  obtain ⟨m, rfl⟩ : ∃ k, m = k + 1 := ⟨m - 1, by omega⟩
  have hsz : (waitOn (m + 1) (⟨d, .move x, tp, ps, #[], none⟩ :: r)).toArray.size = r.length + 1 := by rw [List.size_toArray, waitOn_length, List.length_cons]
  have hsz2 : (⟨d, .move x, tp, ps, #[], none⟩ :: r : List Oper).toArray.size = r.length + 1 := by rw [List.size_toArray, List.length_cons]
  rw [hsz] at h1
  rw [hsz2] at hf
  show wpAny P .any (⟨d, .move x, tp, ps, #[], none⟩ :: r : List Oper).toArray Q (⟨d, .move x, tp, ps, #[], none⟩ :: r : List Oper).toArray.size (Array.replicate (⟨d, .move x, tp, ps, #[], none⟩ :: r : List Oper).toArray.size false) a w.drew
  rw [hsz2]
  have hr1 : 0 ∈ Region.ready .any (waitOn (m + 1) (⟨d, .move x, tp, ps, #[], none⟩ :: r)).toArray (Array.replicate (r.length + 1) false) := by
    rw [mem_ready]
    exact ⟨by simp [Array.getD_eq_getD_getElem?], ⟨d, .move x, tp, ps, #[], none⟩, by rw [List.getElem?_toArray, waitOn]; rfl, fun e he => by simp at he⟩
  have hr2 : 0 ∈ Region.ready .any (⟨d, .move x, tp, ps, #[], none⟩ :: r : List Oper).toArray (Array.replicate (r.length + 1) false) := by
    rw [mem_ready]
    exact ⟨by simp [Array.getD_eq_getD_getElem?], ⟨d, .move x, tp, ps, #[], none⟩, rfl, fun e he => by simp at he⟩
  unfold wpAny at h1
  have h2 := h1.2 0 hr1
  unfold wpOp at h2
  rw [List.getElem?_toArray, waitOn] at h2
  simp only [List.getElem?_cons_zero, Region.wanted, if_true] at h2
  have h3 : wpAny P .any (waitOn (m + 1) (⟨d, .move x, tp, ps, #[], none⟩ :: r)).toArray Q r.length ((Array.replicate (r.length + 1) false).setIfInBounds 0 true) (a.put d (a.eval x)) w.drew := by
    rcases h2 with h2 | h2
    · exact h2
    · exact absurd h2.1.1 (Array.not_mem_empty _)
  have h4 := waitOn_any _ _ _ _ (by simp [Array.getD_eq_getD_getElem?]) h3
  exact wpAny_take (i := 0) (oi := ⟨d, .move x, tp, ps, #[], none⟩) (v := a.eval x) rfl hs hf (by simpa using hr2) hQ2 (Or.inl ⟨rfl, fun w => rfl⟩) h4
end Go.Proofs.YtijnkieakenipaaDoor
