/- A round's body under the plain words of the walk: regions of a loop's body inside the wide fence, in a round's frame, out of what the plain walk shows. -/
import Derived.Test.YtngindljhlbglaaDoorRng
namespace Go.Proofs.YtngindljhlbglaaDoor
open Go.RowKit

/-- normal ends alone -/
def nrm (K : Act → World → Prop) : Exit → Act → World → Prop
  | .normal, a, w => K a w
  | _, _, _ => False
theorem nrm_out (K : Act → World → Prop) : ¬ LetsOut (nrm K) := fun ⟨_, _, h⟩ => h
def noDefer (ops : List Oper) : Bool := ops.all fun o => match o.op with | .defer _ => false | _ => true
theorem noDefer_spec {ops : List Oper} (h : noDefer ops = true) {o : Oper} (ho : o ∈ ops) : ∀ c, o.op ≠ .defer c := fun c e => by
  have := List.all_eq_true.1 h o ho
  rw [e] at this
  cases this

section
variable {P : Program} {n : Nat} {Q : Exit → Act → World → Prop}
theorem rowsIn_round {row : String} {args : Array Value} {w : World} {R : Value → World → Prop} (r : Nat) (h : Rows P row args w R) : RowsIn (Fence.wide.inRound r) n P row args w R :=
  fun c cs _ => let ⟨v, w', q, s⟩ := h c cs; ⟨v, w', q, stepsIn_wide.2 s⟩
theorem oper_wpIn_of_wp (r : Nat) {o : Oper} (hd : ∀ c, o.op ≠ .defer c) {a : Act} {w : World} {K0 K K' : Act → World → Prop} (h : o.wp P a w K (nrm K0)) (hK : ∀ a w, K a w → K' a w) : o.wpIn (Fence.wide.inRound r) n P a w K' Q := by
  refine ⟨fun _ _ => trivial, ?_⟩
  rw [Oper.semAt_eq _ _ _ hd]
  unfold Oper.wp at h
  generalize (execOp a.eval o).run P w = res at h ⊢
  cases res with
  | ok x w' =>
    cases x with
    | value v => exact hK _ _ h
    | skip => exact hK _ _ h
    | defer d => exact hK _ _ h
    | enter f args =>
      refine ⟨fun hh => (by cases hh), ?_⟩
      refine (CallsIn.inRound r (callsIn_wide.2 h)).mono fun e w'' he => ?_
      cases e with
      | returned v => exact hK _ _ he
      | panicked c => exact False.elim he
      | outgrown => exact absurd he (nrm_out _)
    | row row args => exact ⟨fun hh => (by cases hh), (rowsIn_round r h).mono fun _ _ he => hK _ _ he⟩
    | _ => exact False.elim h
  | halt x w' =>
    cases x <;> exact False.elim h

theorem wpListIn_of_wpList (r : Nat) {ops : Array Oper} : ∀ (l : List Oper) (a : Act) (w : World), noDefer l = true → wpList P ops (nrm (fun a w => Q .normal a w)) l a w → wpListIn (Fence.wide.inRound r) n P ops Q l a w
  | [], _, _, _, h => h
  | o :: rest, a, w, hd, h => by
    have hd' : noDefer rest = true := by
      unfold noDefer at hd ⊢
      rw [List.all_cons, Bool.and_eq_true] at hd
      exact hd.2
    unfold wpList at h
    unfold wpListIn
    split
    · rename_i hw
      rw [if_pos hw] at h
      rcases h with h | h
      · exact oper_wpIn_of_wp r (noDefer_spec hd (List.mem_cons_self ..)) h fun a w h => wpListIn_of_wpList r rest a w hd' h
      · exact absurd h.2 (nrm_out _)
    · rename_i hw
      rw [if_neg hw] at h
      exact ⟨fun _ _ => trivial, wpListIn_of_wpList r rest _ _ hd' h⟩
theorem wpAnyIn_of_wpAny (r : Nat) {md : Region.Mode} {ops : Array Oper} (hd : noDefer ops.toList = true) : ∀ (fuel : Nat) (listed : Array Bool) (a : Act) (w : World), wpAny P md ops (nrm (fun a w => Q .normal a w)) fuel listed a w → wpAnyIn (Fence.wide.inRound r) n P md ops Q fuel listed a w
  | 0, _, _, _, h => h
  | fuel + 1, listed, a, w, h => by
    refine ⟨h.1, fun i hi => ?_⟩
    have h2 := h.2 i hi
    unfold wpOp at h2
    unfold wpOpIn
    cases ho : ops[i]? with
    | none =>
      rw [ho] at h2
      exact wpAnyIn_of_wpAny r hd fuel _ _ _ h2
    | some o =>
      rw [ho] at h2
      dsimp only at h2 ⊢
      have hmem : o ∈ ops.toList := Array.mem_toList_iff.2 (Array.mem_of_getElem? ho)
      split
      · rename_i hw
        rw [if_pos hw] at h2
        rcases h2 with h2 | h2
        · exact oper_wpIn_of_wp r (noDefer_spec hd hmem) h2 fun a w h => wpAnyIn_of_wpAny r hd fuel _ _ _ h
        · exact absurd h2.2 (nrm_out _)
      · rename_i hw
        rw [if_neg hw] at h2
        exact ⟨fun _ _ => trivial, wpAnyIn_of_wpAny r hd fuel _ _ _ h2⟩

/-- a plain region in a round -/
theorem wpIn_region_plain {r id : Nat} {a : Act} {w : World} {l : List Oper} (hd : noDefer l = true) (h : wpList P l.toArray (nrm (fun a w => Q .normal a w)) l a w) : (Code.region id l.toArray false).wpIn (Fence.wide.inRound r) n P Q a w :=
  wpIn_region_lit (wpListIn_of_wpList r l a w hd h)
/-- a region that draws its order and ends in a forced tail, in a round -/
theorem wpIn_region_relT {r id : Nat} {a : Act} {w : World} {l : List Oper} (k : Nat) (L : List (Nat × VP)) (R : World → World → Prop) (hd : noDefer l = true) (hm : P.follows .mixedOrders = true) (hT : tailB l.toArray k = true) (hB : relB l.toArray (L.map (·.1)) = true)
    (hkn : L.all (fun p => decide (p.1 < k)) = true)
    (hrange : l.all (fun o => match o.dst with | some d => decide (d < a.tmps.size) | none => true) = true)
    (hrefl : ∀ w, R w w) (htr : ∀ a b d, R a b → R b d → R a d) (hmono : ∀ p ∈ L, ∀ v w w', R w w' → p.2 v w → p.2 v w')
    (h : relWalk P l.toArray R (fun _ a' w' => wpList P l.toArray (nrm (fun a w => Q .normal a w)) (l.drop k) a' w') w.drew L 0 (l.take k) a) : (Code.region id l.toArray true).wpIn (Fence.wide.inRound r) n P Q a w :=
  wpIn_region_any hm (wpAnyIn_of_wpAny r hd _ _ _ _ (relT_wpAny k L R hT hB hkn hrange hrefl htr hmono h))
end
end Go.Proofs.YtngindljhlbglaaDoor
