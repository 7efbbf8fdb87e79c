/- The law for a range over merkle.levels: the body is handed slices that lie in memory, newly made. -/
import Derived.RangeFuncNested
import Derived.RangeFuncBound
import Derived.RangeFuncCalls
import Derived.RangeFuncLeaves
import Derived.Shelf.Abstract
import Derived.Shelf.RegionOpen
import Derived.WalkKit
import Derived.OwnWalkIn
import Derived.TacticsInMore
import Derived.LoopNIn
import Derived.LoopIn
import Derived.Test.YtngindljhlbglaaDoorUp
namespace Go.Proofs.YtngindljhlbglaaDoor
open Go.RowKit

/-- The hashes x lie from A on, in a block at or beyond base. -/
def RdF (base : Nat) (W : World) (A : Option Addr) (x : List (List UInt8)) : Prop := Rd W A (hcl x) ∧ ∀ a, A = some a → base ≤ a.block
theorem Rd.grown {W W' : World} {A : Option Addr} {xs : List Value} {row : Option Nat} (h : Rd W A xs) (hg : W.grownBy W' row) (hrow : ∀ r, row = some r → ∃ o : Obj, W.heap[r]? = some o ∧ o.isCells = false) : Rd W' A xs :=
  h.keep fun _ _ _ hv => cell_kept hv hg hrow
theorem Below.grownNone {w w' : World} (h : Below w.heap.size w w') : w.grownBy w' none := ⟨h.os, h.tape, h.output, h.size, fun k hk _ => h.block k hk⟩

/-- What the iterator promises: each of lvs, in its order, in new memory. -/
def LvSeq (n : Nat) (P : Program) (g : Nat) (lb : Array Value) (lvs : List (List (List UInt8))) (w : World) : Prop :=
  ∀ (l : Nat) (J : Nat → World → Prop) (W : World), Below w.heap.size w W → (∀ j W, J j W → Tabs W) →
    (∀ j x W0 W1 A c, lvs[j]? = some x → J j W0 → Below W0.heap.size W0 W1 → RdF W0.heap.size W1 A x → x.length ≤ c → YieldAt Fence.wide (n - 1) P l #[.slice A x.length c] W1 fun e W' =>
      e = .returned (.bool true) ∧ J (j + 1) W' ∧ Rd W' A (hcl x)) →
    J 0 W →
    CallsIn Fence.wide n P g (#[.func (.yield l) #[] #[]] ++ lb) W fun e W' => (∃ v, e = .returned v) ∧ J lvs.length W'

/-- How a round's body ends. -/
def lvPost (B : Nat) (A : Option Addr) (x : List (List UInt8)) (R : World → Prop) (W : World) : Exit → Act → World → Prop
  | .normal, _, W' => KeepsFrom B W W' ∧ Rd W' A (hcl x) ∧ R W'
  | _, _, _ => False

theorem wpIn_rangeFunc_lv {P : Program} {n : Nat} {g : Operand} {ps : Array Tmp} {assign body : Code} {Q : Exit → Act → World → Prop} {a : Act} {w : World}
    (h1 : 1 ≤ n) {gf : Nat} {lb : Array Value} (hg : a.eval g = .func (.func gf) #[] lb) (eg : ∀ args w, (callFunc gf args).run P w = .ok (.enter gf args) w)
    {lvs : List (List (List UInt8))} (hseq : LvSeq (n - 1) P gf lb lvs w) (hps : ps.size = 1)
    (I : Nat → Nat → World → Prop) (hI : ∀ j b W W' row, I j b W → W.grownBy W' row → (∀ r, row = some r → w.heap.size ≤ r ∧ ∃ o : Obj, W.heap[r]? = some o ∧ o.isCells = false) → I j b W')
    (hT : ∀ j b W, I j b W → Tabs W) (h0 : ∀ b, w.heap.size ≤ b → I 0 b w) (a₁ : Value → Act)
    (hassign : ∀ (l : Nat) (v : Value) (W : World) (K : Act → World → Prop), K (a₁ v) W →
      assign.wpIn (Fence.wide.inRound l) (n - 1 - 1) P (Exit.then K (fun _ _ _ => False)) { tmps := (ps.zip #[v]).foldl (fun t (p, v) => t.setIfInBounds p v) a.tmps, defers := [] } W)
    (hbody : ∀ (l j : Nat) (x : List (List UInt8)) (b : Nat) (W : World) (A : Option Addr) (c : Nat), lvs[j]? = some x → I j b W → RdF b W A x → x.length ≤ c → b ≤ W.heap.size →
      body.wpIn (Fence.wide.inRound l) (n - 1 - 1) P (lvPost w.heap.size A x (fun W' => I (j + 1) W'.heap.size W') W) (a₁ (.slice A x.length c)) W)
    (hdone : ∀ (D : Nat) (W : World), w.heap.size ≤ D → I lvs.length W.heap.size W → W.heap[D]? = some (.deferred (some [])) → Q .normal { a with defers := { target := .collected D, args := #[] } :: a.defers } W) :
    (Code.rangeFunc g ps assign body).wpIn Fence.wide n P Q a w := by
  refine wpIn_rangeFunc ?_
  intro fn hfn
  show ∃ l, _
  obtain ⟨rec, hrec⟩ : ∃ rec : LoopState → Option Code → Loop, rec = fun st pe => { state := st, pending := pe, fn, tmps := a.tmps, params := ps, assign, body, defers := w.heap.size } := ⟨_, rfl⟩
  obtain ⟨W1, hW1⟩ : ∃ W1, (w.alloc (.deferred (some []))).alloc (.loop (rec .ready none)) = W1 := ⟨_, rfl⟩
  have hL1 : W1.heap[w.heap.size + 1]? = some (.loop (rec .ready none)) := by
    rw [← hW1]; have := World.alloc_heap_new (w.alloc (.deferred (some []))) (.loop (rec .ready none)); rwa [World.size_alloc] at this
  have hK1 : W1.heap[w.heap.size]? = some (.deferred (some [])) := by
    rw [← hW1]; exact (Below.heap_alloc _ _ _ (by simp)).trans (World.alloc_heap_new w _)
  have hb1 : Below w.heap.size w W1 := by
    rw [← hW1]; exact ((Below.refl _ w).alloc (Nat.le_refl _) _).alloc (by simp) _
  have hI1 : I 0 W1.heap.size W1 := hI _ _ _ _ none (h0 _ hb1.size) (Below.grownNone hb1) (fun r e => by cases e)
  refine ⟨w.heap.size + 1, [{ target := .collected w.heap.size, args := #[] }], W1, { target := .fn (.func gf) lb, args := #[.func (.yield (w.heap.size + 1)) #[] #[]] }, W1, gf,
    #[.func (.yield (w.heap.size + 1)) #[] #[]] ++ lb, W1, ?_, ?_, ?_, ?_, fun _ => h1, ?_⟩
  · rw [← hW1, hrec]; exact run_enterLoop_outer _ _ _ _ _
  · simp only [resolve, hg]
    simp [go_sem]
  · intro f' _; trivial
  · simp [invoke, go_sem, eg]
  · refine (hseq (w.heap.size + 1)
      (fun j W => I j W.heap.size W ∧ W.heap[w.heap.size + 1]? = some (.loop (rec .ready none)) ∧ W.heap[w.heap.size]? = some (.deferred (some [])))
      W1 hb1 (fun j W h => hT _ _ _ h.1) ?_ ⟨hI1, hL1, hK1⟩).mono ?_
    · rintro j x W0 W A c hx ⟨hi0, hl0, hk0⟩ hB hrf hc
      have hi : I j W0.heap.size W := hI _ _ _ _ none hi0 (Below.grownNone hB) (fun r e => by cases e)
      have hl : W.heap[w.heap.size + 1]? = some (.loop (rec .ready none)) := (hB.block _ (Array.getElem?_eq_some_iff.1 hl0).1).trans hl0
      have hk : W.heap[w.heap.size]? = some (.deferred (some [])) := (hB.block _ (Array.getElem?_eq_some_iff.1 hk0).1).trans hk0
      have hlt : w.heap.size + 1 < W.heap.size := (Array.getElem?_eq_some_iff.1 hl).1
      have hy := run_yield (P := P) (args := #[Value.slice A x.length c]) hl (by rw [hrec]; simp [hps])
      rw [hrec] at hy
      refine ⟨fn, _, assign, body, hy, roundIn_of_wpIn hfn (hassign _ _ W _ ⟨_, run_beginRound hl (by rw [hrec]), ?_⟩)⟩
      have hl2 : (W.putObj (w.heap.size + 1) (.loop { rec .ready none with state := .busy })).heap[w.heap.size + 1]? = some (.loop { rec .ready none with state := .busy }) := World.putObj_heap_same hlt
      have hk2 : (W.putObj (w.heap.size + 1) (.loop { rec .ready none with state := .busy })).heap[w.heap.size]? = some (.deferred (some [])) := (World.putObj_heap_other (by omega)).trans hk
      have hg2 := grownBy_putObj' W (w.heap.size + 1) (.loop { rec .ready none with state := .busy })
      have hr2 : Rd (W.putObj (w.heap.size + 1) (.loop { rec .ready none with state := .busy })) A (hcl x) := hrf.1.grown hg2 (fun r e => by cases e; exact ⟨_, hl, rfl⟩)
      have hi2 := hI _ _ _ _ _ hi hg2 (fun r e => by cases e; exact ⟨by omega, _, hl, rfl⟩)
      refine wpIn_mono (hbody _ j x W0.heap.size _ A c hx hi2 ⟨hr2, hrf.2⟩ hc (Nat.le_trans hB.size hg2.size)) ?_
      rintro e a3 W3 hp
      cases e with
      | normal =>
        obtain ⟨hk3, hr3, hi3⟩ := hp
        have hl3 := hk3.same _ _ (by omega) hl2 rfl
        have hd3 := hk3.same _ _ (Nat.le_refl _) hk2 rfl
        have hend := run_endRound (P := P) none hl3
        have hg3 := grownBy_putObj' W3 (w.heap.size + 1) (.loop (rec .ready none))
        rw [hrec] at hend hl3
        refine ⟨_, _, hend, rfl, ⟨?_, ?_, ?_⟩, ?_⟩
        · have := hI _ _ _ _ _ hi3 hg3 (fun r e => by cases e; exact ⟨by omega, _, hl3, rfl⟩)
          rw [hrec] at this
          simpa using this
        · rw [hrec]; exact World.putObj_heap_same (Array.getElem?_eq_some_iff.1 hl3).1
        · exact (World.putObj_heap_other (by omega)).trans hd3
        · have := hr3.grown hg3 (fun r e => by cases e; exact ⟨_, hl3, rfl⟩)
          rw [hrec] at this
          exact this
      | _ => exact hp.elim
    · rintro e W2 ⟨⟨v, rfl⟩, hi, hl, hk⟩
      have hend := run_endLoop (P := P) hl (by rw [hrec]; simp)
      have hi3 := hI _ _ _ _ _ hi (grownBy_putObj' W2 (w.heap.size + 1) (.loop { rec .ready none with state := .exhausted })) (fun r e => by cases e; exact ⟨by omega, _, hl, rfl⟩)
      have hk3 := (World.putObj_heap_other (w := W2) (r := w.heap.size + 1) (k := w.heap.size) (o := .loop { rec .ready none with state := .exhausted }) (by omega)).trans hk
      rw [hrec] at hend hi3 hk3
      exact ⟨none, _, hend, hdone _ _ (Nat.le_refl _) (by simpa using hi3) hk3⟩
end Go.Proofs.YtngindljhlbglaaDoor
