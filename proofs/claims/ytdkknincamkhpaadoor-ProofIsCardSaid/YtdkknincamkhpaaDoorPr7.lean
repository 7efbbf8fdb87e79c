/- Up; Rng: put together for the claim. -/
import Derived.Test.YtdkknincamkhpaaDoorPr6
import Derived.Great.BuildSlice
import Derived.RangeFuncNested
import Derived.RangeFuncBound
import Derived.RangeFuncCalls
import Derived.RangeFuncLeaves
import Derived.Shelf.Abstract
import Derived.Shelf.RegionOpen
import Derived.WalkKit
import Derived.OwnWalkIn
import Derived.TacticsInMore
import Derived.LoopNIn
import Derived.LoopIn
/- merkle.above: the level above one. -/
namespace Go.Proofs.YtdkknincamkhpaaDoor
open Go.RowKit

set_option maxRecDepth 10000 in
/-- a literal of hashes -/
theorem run_buildH (w : World) (l : List (List UInt8)) (h32 : All32 l) (n : Nat) (hn : l.length = n) (hp : 0 < n) (hs : n ≤ 1000) (parts : Array (Nat × Value)) (hparts : parts.toList = ((l.map fun x => Value.agg (hcs x)).zipIdx 0).map fun x => (x.2, x.1)) :
    (Instr.buildSlice 23 n parts).run Tryd.prog w = .ok (.slice (some ⟨w.heap.size, 0, none⟩) n n) (w.alloc (.cells (hcl l).toArray 28)) := by
  obtain ⟨i0, hi, hz⟩ := Option.map_eq_some_iff.1 info_h
  obtain ⟨i1, hi1, hz1⟩ := Option.map_eq_some_iff.1 zero_h
  obtain rfl : i1 = i0 := by rw [hi] at hi1; exact (Option.some.inj hi1).symm
  obtain ⟨z, hz2, hz3⟩ := Option.map_eq_some_iff.1 hz1
  injection hz with hz4 hz5
  refine run_buildSlice w _ _ n parts _ i1 z Tryd.underlying23 hi hz2 (by rw [hz4]; omega) (by rw [hz4]; omega) ?_
  rw [hparts, hz4]
  have := Great.fill_whole (s := 32) (by omega) (l.map fun x => Value.agg (hcs x)) ((Array.range (n * 32)).map (z.cells[· % z.cells.size]!)) (fun v hv => by
    obtain ⟨x, hx, rfl⟩ := List.mem_map.1 hv
    simp [Value.cells, h32 x hx]) (by simp [hn])
  rw [this]
  congr 2
  rw [List.flatMap_map, hcl]
  simp [Value.cells]
theorem exec_buildH {o : Oper} {ρ : Operand → Value} {w : World} (x : List UInt8) (hx : x.length = 32) (y : Operand) (ho : o.op = .buildSlice 23 1 #[(0, y)]) (hy : ρ y = .agg (hcs x)) :
    (execOp ρ o).run Tryd.prog w = .ok (.value (.slice (some ⟨w.heap.size, 0, none⟩) 1 1)) (w.alloc (.cells (x.map bv).toArray 28)) := by
  have := run_buildH w [x] (All32.one hx) 1 rfl (by omega) (by omega) #[(0, .agg (hcs x))] rfl
  rw [hcl_one] at this
  unfold execOp
  simp only [ho, Sem.run_bind, List.map_toArray, List.map_cons, List.map_nil, hy, this, Result.andThen_ok]
  rfl

/-- the level that stands on a level -/
def mUp : List (List UInt8) → List (List UInt8)
  | [] => []
  | [x] => [pairB x x]
  | x :: y :: r => pairB x y :: mUp r
theorem mUp_length : ∀ l : List (List UInt8), (mUp l).length = (l.length + 1) / 2
  | [] => by rw [mUp]; rfl
  | [_] => by rw [mUp]; simp
  | _ :: _ :: r => by rw [mUp, List.length_cons, mUp_length r, List.length_cons, List.length_cons]; omega
theorem mUp_32 : ∀ l : List (List UInt8), All32 (mUp l)
  | [] => fun _ h => by cases h
  | [x] => by rw [mUp]; exact All32.one (pairB_length x x)
  | x :: y :: r => fun z hz => by
    rw [mUp] at hz
    rcases List.mem_cons.1 hz with hz | hz
    · rw [hz]; exact pairB_length x y
    · exact mUp_32 r z hz
theorem mUp_get : ∀ (l : List (List UInt8)) (k : Nat), 2 * k < l.length → (mUp l)[k]? = some (pairB (l.getD (2 * k) []) (l.getD (min (2 * k + 1) (l.length - 1)) []))
  | [], k, h => by simp at h
  | [x], k, h => by
    obtain rfl : k = 0 := by simp at h; omega
    rw [mUp]; simp
  | x :: y :: r, 0, h => by
    simp [mUp]
  | x :: y :: r, k + 1, h => by
    rw [mUp, List.getElem?_cons_succ, mUp_get r k (by simp at h; omega)]
    simp only [List.length_cons] at h ⊢
    rw [show 2 * (k + 1) = 2 * k + 1 + 1 by omega, show min (2 * k + 1 + 1 + 1) (r.length + 1 + 1 - 1) = min (2 * k + 1) (r.length - 1) + 1 + 1 by omega]
    rfl

set_option maxRecDepth 10000 in
set_option maxHeartbeats 2000000 in
theorem above (l : List (List UInt8)) (h32 : All32 l) (A : Option Addr) (n c : Nat) (w : World) (hr : Rd w A (hcl l)) (hn : l.length = n) (hm : n ≤ 4096) (ht : Tabs w) :
    Calls Tryd.prog 64 #[.slice A n c] w fun e w' => ∃ v, e = .returned v ∧ w'.ownsRow w.heap.size 28 32 v ((n + 1) / 2) (hcl (mUp l)) ∧ Below w.heap.size w w' := by
  replace hn := Lib.hid hn
  go_enter Tryd.func64, Tryd.ntmps64
  go_wp2
  go_loopw [3, 4] (fun v i wr => ∃ k : Nat, 2 * k ≤ n + 1 ∧ i = .int .i64 ((2 * k : Nat) : Int) ∧ wr.ownsRow w.heap.size 28 32 v k (hcl ((mUp l).take k)) ∧ Below w.heap.size w wr) (fun _ i _ => n + 1 - (intOf i).toNat)
  case atStart => exact ⟨0, by omega, rfl, World.ownsRow_nil _ _ _ _, Below.refl _ _⟩
  case round =>
    obtain ⟨k, hk, rfl, hown, hb⟩ := hrel
    by_cases hlt : 2 * k < n
    · have t1 : decide (((2 * k : Nat) : Int) < (n : Int)) = true := by simp; omega
      obtain ⟨b, off, rfl⟩ := hr.someA (hcl_ne h32 (by rw [hn.out]; omega))
      obtain ⟨x, hx⟩ : ∃ x, x = l.getD (2 * k) [] := ⟨_, rfl⟩
      obtain ⟨j, hj⟩ : ∃ j, j = min (2 * k + 1) (n - 1) := ⟨_, rfl⟩
      have hjn : j < n := by omega
      obtain ⟨y, hy⟩ : ∃ y, y = l.getD j [] := ⟨_, rfl⟩
      have hx32 : x.length = 32 := by rw [hx]; exact h32.get _ (by rw [hn.out]; omega)
      have hy32 : y.length = 32 := by rw [hy]; exact h32.get _ (by rw [hn.out]; omega)
      have hrx := Lib.hid (fun w' (hE : Below w.heap.size w w') => hx ▸ (hr.below hE).hash h32 (2 * k) (by rw [hn.out]; omega))
      have hry := Lib.hid (fun w' (hE : Below w.heap.size w w') => hy ▸ (hr.below hE).hash h32 j (by rw [hn.out]; omega))
      have hg : (mUp l)[k]? = some (pairB x y) := by
        rw [mUp_get l k (by rw [hn.out]; exact hlt), hn.out, ← hj, ← hx, ← hy]
      have HP := Lib.hid (paired_of (2 * k) n (by omega) (by omega) (by omega))
      rw [if_pos (by omega), ← hj] at HP
      have HQ := Lib.hid (fun w (ht : Tabs w) => Pair x y hx32 hy32 w ht)
      replace hj := Lib.hid hj
      replace hx := Lib.hid hx
      replace hy := Lib.hid hy
      replace hg := Lib.hid hg
      go_wp2_with fail
      have H1 : ∀ w', Ext wr.drew w' → Below w.heap.size w w' := fun w' hE => hb.trans (hE.drew.mono hb.size)
      refine wp_region_relT 14 [(13, OneW ((pairB x y).map bv))] Ext (by kernel_rfl) (by kernel_rfl) (by kernel_rfl) (by kernel_rfl) (by kernel_rfl) Ext.refl Ext.trans (by intro p hp v w w' hR; simp only [List.mem_singleton] at hp; subst hp; exact OneW.mono hR) ?_
      refine relMove Ext.refl rfl rfl rfl rfl _ (.inl rfl) (by conv => lhs; whnf) (by simp only [List.set_cons_succ, List.set_cons_zero]; rfl) ?_
      refine relMove Ext.refl rfl rfl rfl rfl _ (.inl rfl) (by conv => lhs; whnf) (by simp only [List.set_cons_succ, List.set_cons_zero]; rfl) ?_
      refine relMove Ext.refl rfl rfl rfl rfl _ (.inl rfl) (by conv => lhs; whnf) (by simp only [List.set_cons_succ, List.set_cons_zero]; rfl) ?_
      refine relPure Ext.refl rfl rfl rfl rfl (fun w _ => by go_simp; first | done | rfl) (by simp only [List.set_cons_succ, List.set_cons_zero]; rfl) ?_
      refine relPure Ext.refl rfl rfl rfl rfl (c := .agg (hcs x)) (fun w hw => exec_load_mid _ _ rfl b (off + 2 * k * 32) rfl (x.map bv) _ (hrx.out w (H1 w hw)) Tryd.underlying28 rfl (by rw [List.length_map, hx32]; kernel_rfl)) (by simp only [List.set_cons_succ, List.set_cons_zero]; rfl) ?_
      refine relMove Ext.refl rfl rfl rfl rfl _ (.inl rfl) (by conv => lhs; whnf) (by simp only [List.set_cons_succ, List.set_cons_zero]; rfl) ?_
      refine relMove Ext.refl rfl rfl rfl rfl _ (.inl rfl) (by conv => lhs; whnf) (by simp only [List.set_cons_succ, List.set_cons_zero]; rfl) ?_
      refine relMove Ext.refl rfl rfl rfl rfl _ (.inl rfl) (by conv => lhs; whnf) (by simp only [List.set_cons_succ, List.set_cons_zero]; rfl) ?_
      refine relPure Ext.refl rfl rfl rfl rfl (fun w _ => by go_simp; first | done | rfl) (by simp only [List.set_cons_succ, List.set_cons_zero]; rfl) ?_
      refine relCall1 rfl rfl rfl rfl (c := .int .i64 (j : Int)) 48 #[.int .i64 ((2 * k : Nat) : Int), .int .i64 (n : Int)] (fun w => by go_simp) (fun w hw => (HP.out w).mono ?_) (by simp only [List.set_cons_succ, List.set_cons_zero]; rfl) ?_
      · rintro e w' ⟨rfl, rfl⟩
        exact ⟨rfl, Ext.refl _⟩
      refine relPure Ext.refl rfl rfl rfl rfl (fun w _ => by go_simp; first | done | rfl) (by simp only [List.set_cons_succ, List.set_cons_zero]; rfl) ?_
      refine relPure Ext.refl rfl rfl rfl rfl (c := .agg (hcs y)) (fun w hw => exec_load_mid _ _ rfl b (off + j * 32) rfl (y.map bv) _ (hry.out w (H1 w hw)) Tryd.underlying28 rfl (by rw [List.length_map, hy32]; kernel_rfl)) (by simp only [List.set_cons_succ, List.set_cons_zero]; rfl) ?_
      refine relCall1 rfl rfl rfl rfl (c := .agg (hcs (pairB x y))) 30 #[.agg (hcs x), .agg (hcs y)] (fun w => by go_simp) (fun w hw => (HQ.out w (ht.below (H1 w hw))).mono ?_) (by simp only [List.set_cons_succ, List.set_cons_zero]; rfl) ?_
      · rintro e w' ⟨rfl, hb⟩
        exact ⟨rfl, hb⟩
      refine relWord _ rfl (fun w hw => fill_none rfl (relOp_yes rfl ?_)) ?_
      · rw [exec_buildH (pairB x y) (pairB_length x y) _ rfl (by rw [eval_evL]; rfl)]
        exact ⟨(Below.refl _ _).alloc (Nat.le_refl _) _, _, rfl, Av.rd (t := 28) (heap_alloc_new _ _)⟩
      refine relEnd fun w2 hw2 => fill_take rfl rfl fun v hv => fill_end ?_
      simp only [List.set_cons_succ, List.set_cons_zero, List.drop_succ_cons, List.drop_zero]
      obtain ⟨B, rfl, hrb⟩ := hv
      have hb2 := H1 w2 hw2
      rw [← hcl_one] at hrb
      replace hown := own_below hown hw2.drew.below
      go_wp2_with (at_builtin; refine wpList_appH hown hb2 hb2.size (All32.one (pairB_length x y)) 1 1 hrb rfl (by omega) rfl (.tmp 11) (.tmp 24) rfl rfl rfl ?_; intro v3 w3 hown3 hb3 hz3 _ _)
      refine ⟨⟨k + 1, by omega, by rw [show ((2 * (k + 1) : Nat) : Int) = 2 * (k : Int) + 2 by omega], ?_, hb3⟩, ?_⟩
      · rw [List.take_add_one, hg.out]; exact hown3
      · simp only [intOf]; omega
    · have t1 : decide (((2 * k : Nat) : Int) < (n : Int)) = false := by simp; omega
      go_wp2
      go_ret
      refine ⟨_, rfl, ?_, hb⟩
      rw [List.take_of_length_le (by rw [mUp_length, hn.out]; omega)] at hown
      rw [show (n + 1) / 2 = k by omega]
      exact hown
end Go.Proofs.YtdkknincamkhpaaDoor
/- The law for a range over merkle.levels: the body is handed slices that lie in memory, newly made. -/
namespace Go.Proofs.YtdkknincamkhpaaDoor
open Go.RowKit

/-- The hashes x lie from A on, in a block at or beyond base. -/
def RdF (base : Nat) (W : World) (A : Option Addr) (x : List (List UInt8)) : Prop := Rd W A (hcl x) ∧ ∀ a, A = some a → base ≤ a.block
theorem Rd.grown {W W' : World} {A : Option Addr} {xs : List Value} {row : Option Nat} (h : Rd W A xs) (hg : W.grownBy W' row) (hrow : ∀ r, row = some r → ∃ o : Obj, W.heap[r]? = some o ∧ o.isCells = false) : Rd W' A xs :=
  h.keep fun _ _ _ hv => cell_kept hv hg hrow
theorem Below.grownNone {w w' : World} (h : Below w.heap.size w w') : w.grownBy w' none := ⟨h.os, h.tape, h.output, h.size, fun k hk _ => h.block k hk⟩

/-- What the iterator promises: each of lvs, in its order, in new memory. -/
def LvSeq (n : Nat) (P : Program) (g : Nat) (lb : Array Value) (lvs : List (List (List UInt8))) (w : World) : Prop :=
  ∀ (l : Nat) (J : Nat → World → Prop) (W : World), Below w.heap.size w W → (∀ j W, J j W → Tabs W) →
    (∀ j x W0 W1 A c, lvs[j]? = some x → J j W0 → Below W0.heap.size W0 W1 → RdF W0.heap.size W1 A x → x.length ≤ c → YieldAt Fence.wide (n - 1) P l #[.slice A x.length c] W1 fun e W' =>
      e = .returned (.bool true) ∧ J (j + 1) W' ∧ Rd W' A (hcl x)) →
    J 0 W →
    CallsIn Fence.wide n P g (#[.func (.yield l) #[] #[]] ++ lb) W fun e W' => (∃ v, e = .returned v) ∧ J lvs.length W'

/-- How a round's body ends. -/
def lvPost (B : Nat) (A : Option Addr) (x : List (List UInt8)) (R : World → Prop) (W : World) : Exit → Act → World → Prop
  | .normal, _, W' => KeepsFrom B W W' ∧ Rd W' A (hcl x) ∧ R W'
  | _, _, _ => False

theorem wpIn_rangeFunc_lv {P : Program} {n : Nat} {g : Operand} {ps : Array Tmp} {assign body : Code} {Q : Exit → Act → World → Prop} {a : Act} {w : World}
    (h1 : 1 ≤ n) {gf : Nat} {lb : Array Value} (hg : a.eval g = .func (.func gf) #[] lb) (eg : ∀ args w, (callFunc gf args).run P w = .ok (.enter gf args) w)
    {lvs : List (List (List UInt8))} (hseq : LvSeq (n - 1) P gf lb lvs w) (hps : ps.size = 1)
    (I : Nat → Nat → World → Prop) (hI : ∀ j b W W' row, I j b W → W.grownBy W' row → (∀ r, row = some r → w.heap.size ≤ r ∧ ∃ o : Obj, W.heap[r]? = some o ∧ o.isCells = false) → I j b W')
    (hT : ∀ j b W, I j b W → Tabs W) (h0 : ∀ b, w.heap.size ≤ b → I 0 b w) (a₁ : Value → Act)
    (hassign : ∀ (l : Nat) (v : Value) (W : World) (K : Act → World → Prop), K (a₁ v) W →
      assign.wpIn (Fence.wide.inRound l) (n - 1 - 1) P (Exit.then K (fun _ _ _ => False)) { tmps := (ps.zip #[v]).foldl (fun t (p, v) => t.setIfInBounds p v) a.tmps, defers := [] } W)
    (hbody : ∀ (l j : Nat) (x : List (List UInt8)) (b : Nat) (W : World) (A : Option Addr) (c : Nat), lvs[j]? = some x → I j b W → RdF b W A x → x.length ≤ c → b ≤ W.heap.size →
      body.wpIn (Fence.wide.inRound l) (n - 1 - 1) P (lvPost w.heap.size A x (fun W' => I (j + 1) W'.heap.size W') W) (a₁ (.slice A x.length c)) W)
    (hdone : ∀ (D : Nat) (W : World), w.heap.size ≤ D → I lvs.length W.heap.size W → W.heap[D]? = some (.deferred (some [])) → Q .normal { a with defers := { target := .collected D, args := #[] } :: a.defers } W) :
    (Code.rangeFunc g ps assign body).wpIn Fence.wide n P Q a w := by
  refine wpIn_rangeFunc ?_
  intro fn hfn
  show ∃ l, _
  obtain ⟨rec, hrec⟩ : ∃ rec : LoopState → Option Code → Loop, rec = fun st pe => { state := st, pending := pe, fn, tmps := a.tmps, params := ps, assign, body, defers := w.heap.size } := ⟨_, rfl⟩
  obtain ⟨W1, hW1⟩ : ∃ W1, (w.alloc (.deferred (some []))).alloc (.loop (rec .ready none)) = W1 := ⟨_, rfl⟩
  have hL1 : W1.heap[w.heap.size + 1]? = some (.loop (rec .ready none)) := by
    rw [← hW1]; have := World.alloc_heap_new (w.alloc (.deferred (some []))) (.loop (rec .ready none)); rwa [World.size_alloc] at this
  have hK1 : W1.heap[w.heap.size]? = some (.deferred (some [])) := by
    rw [← hW1]; exact (Below.heap_alloc _ _ _ (by simp)).trans (World.alloc_heap_new w _)
  have hb1 : Below w.heap.size w W1 := by
    rw [← hW1]; exact ((Below.refl _ w).alloc (Nat.le_refl _) _).alloc (by simp) _
  have hI1 : I 0 W1.heap.size W1 := hI _ _ _ _ none (h0 _ hb1.size) (Below.grownNone hb1) (fun r e => by cases e)
  refine ⟨w.heap.size + 1, [{ target := .collected w.heap.size, args := #[] }], W1, { target := .fn (.func gf) lb, args := #[.func (.yield (w.heap.size + 1)) #[] #[]] }, W1, gf,
    #[.func (.yield (w.heap.size + 1)) #[] #[]] ++ lb, W1, ?_, ?_, ?_, ?_, fun _ => h1, ?_⟩
  · rw [← hW1, hrec]; exact run_enterLoop_outer _ _ _ _ _
  · simp only [resolve, hg]
    simp [go_sem]
  · intro f' _; trivial
  · simp [invoke, go_sem, eg]
  · refine (hseq (w.heap.size + 1)
      (fun j W => I j W.heap.size W ∧ W.heap[w.heap.size + 1]? = some (.loop (rec .ready none)) ∧ W.heap[w.heap.size]? = some (.deferred (some [])))
      W1 hb1 (fun j W h => hT _ _ _ h.1) ?_ ⟨hI1, hL1, hK1⟩).mono ?_
    · rintro j x W0 W A c hx ⟨hi0, hl0, hk0⟩ hB hrf hc
      have hi : I j W0.heap.size W := hI _ _ _ _ none hi0 (Below.grownNone hB) (fun r e => by cases e)
      have hl : W.heap[w.heap.size + 1]? = some (.loop (rec .ready none)) := (hB.block _ (Array.getElem?_eq_some_iff.1 hl0).1).trans hl0
      have hk : W.heap[w.heap.size]? = some (.deferred (some [])) := (hB.block _ (Array.getElem?_eq_some_iff.1 hk0).1).trans hk0
      have hlt : w.heap.size + 1 < W.heap.size := (Array.getElem?_eq_some_iff.1 hl).1
      have hy := run_yield (P := P) (args := #[Value.slice A x.length c]) hl (by rw [hrec]; simp [hps])
      rw [hrec] at hy
      refine ⟨fn, _, assign, body, hy, roundIn_of_wpIn hfn (hassign _ _ W _ ⟨_, run_beginRound hl (by rw [hrec]), ?_⟩)⟩
      have hl2 : (W.putObj (w.heap.size + 1) (.loop { rec .ready none with state := .busy })).heap[w.heap.size + 1]? = some (.loop { rec .ready none with state := .busy }) := World.putObj_heap_same hlt
      have hk2 : (W.putObj (w.heap.size + 1) (.loop { rec .ready none with state := .busy })).heap[w.heap.size]? = some (.deferred (some [])) := (World.putObj_heap_other (by omega)).trans hk
      have hg2 := grownBy_putObj' W (w.heap.size + 1) (.loop { rec .ready none with state := .busy })
      have hr2 : Rd (W.putObj (w.heap.size + 1) (.loop { rec .ready none with state := .busy })) A (hcl x) := hrf.1.grown hg2 (fun r e => by cases e; exact ⟨_, hl, rfl⟩)
      have hi2 := hI _ _ _ _ _ hi hg2 (fun r e => by cases e; exact ⟨by omega, _, hl, rfl⟩)
      refine wpIn_mono (hbody _ j x W0.heap.size _ A c hx hi2 ⟨hr2, hrf.2⟩ hc (Nat.le_trans hB.size hg2.size)) ?_
      rintro e a3 W3 hp
      cases e with
      | normal =>
        obtain ⟨hk3, hr3, hi3⟩ := hp
        have hl3 := hk3.same _ _ (by omega) hl2 rfl
        have hd3 := hk3.same _ _ (Nat.le_refl _) hk2 rfl
        have hend := run_endRound (P := P) none hl3
        have hg3 := grownBy_putObj' W3 (w.heap.size + 1) (.loop (rec .ready none))
        rw [hrec] at hend hl3
        refine ⟨_, _, hend, rfl, ⟨?_, ?_, ?_⟩, ?_⟩
        · have := hI _ _ _ _ _ hi3 hg3 (fun r e => by cases e; exact ⟨by omega, _, hl3, rfl⟩)
          rw [hrec] at this
          simpa using this
        · rw [hrec]; exact World.putObj_heap_same (Array.getElem?_eq_some_iff.1 hl3).1
        · exact (World.putObj_heap_other (by omega)).trans hd3
        · have := hr3.grown hg3 (fun r e => by cases e; exact ⟨_, hl3, rfl⟩)
          rw [hrec] at this
          exact this
      | _ => exact hp.elim
    · rintro e W2 ⟨⟨v, rfl⟩, hi, hl, hk⟩
      have hend := run_endLoop (P := P) hl (by rw [hrec]; simp)
      have hi3 := hI _ _ _ _ _ hi (grownBy_putObj' W2 (w.heap.size + 1) (.loop { rec .ready none with state := .exhausted })) (fun r e => by cases e; exact ⟨by omega, _, hl, rfl⟩)
      have hk3 := (World.putObj_heap_other (w := W2) (r := w.heap.size + 1) (k := w.heap.size) (o := .loop { rec .ready none with state := .exhausted }) (by omega)).trans hk
      rw [hrec] at hend hi3 hk3
      exact ⟨none, _, hend, hdone _ _ (Nat.le_refl _) (by simpa using hi3) hk3⟩
end Go.Proofs.YtdkknincamkhpaaDoor
