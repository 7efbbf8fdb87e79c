/- Rh; Rng: put together for the claim. -/
import Derived.Test.YtmdllemgjhkphaaDoorPr8
import Derived.Test.YtmdllemgjhkphaaDoorPr9
import Derived.RangeFuncNested
import Derived.RangeFuncBound
import Derived.RangeFuncCalls
import Derived.RangeFuncLeaves
import Derived.Shelf.Abstract
import Derived.Shelf.RegionOpen
import Derived.WalkKit
import Derived.OwnWalkIn
import Derived.TacticsInMore
import Derived.LoopNIn
import Derived.LoopIn
/- florinref10: Width, Height, up. -/
namespace Go.Proofs.YtmdllemgjhkphaaDoor
open Go.RowKit
theorem pow_le12 : ∀ k : Nat, k ≤ 12 → 1 ≤ (2 : Int) ^ k ∧ (2 : Int) ^ k ≤ 4096 := by decide
theorem WidthR (n ht : Int) (w : World) : Calls Tryd.prog 49 #[.int .i64 n, .int .i64 ht] w fun e w' => e = .returned (.int .i64 (mWidth n ht)) ∧ w' = w := by
  by_cases hh : ht < 0
  · go_enter Tryd.func49, Tryd.ntmps49
    go_wp2
    go_ret
    exact ⟨by rw [mWidth, if_pos hh]; rfl, rfl⟩
  · have h0 : 0 ≤ ht := by omega
    obtain ⟨M, hM⟩ : ∃ M, M = min (max n 0) 4096 := ⟨_, rfl⟩
    have hM0 : 0 ≤ M := by omega
    have hM1 : M ≤ 4096 := by omega
    obtain ⟨V, hV⟩ : ∃ V, V = mWidth n ht := ⟨_, rfl⟩
    have hVk : ∀ k : Nat, (min ht 12).toNat = k → V = (M + 2 ^ k - 1) / 2 ^ k := fun k hk => by rw [hV, mWidth, if_neg hh, hk, hM]
    rw [← hV]
    clear hV hh
    replace hVk := Lib.hid hVk
    rcases (show n < 0 ∨ (0 ≤ n ∧ n ≤ 4096) ∨ 4096 < n by omega) with hn | hn | hn <;>
    · go_enter Tryd.func49, Tryd.ntmps49
      go_wp2
      all_goals try (exfalso; omega)
      all_goals
        go_loopw [5, 6] (fun p i wr => ∃ (k : Nat) (P : Int), Hid (P = 2 ^ k) ∧ k ≤ 12 ∧ (k : Int) ≤ ht ∧ p = .int .i64 P ∧ i = .int .i64 (k : Int) ∧ wr = w) (fun _ i _ => 12 - (intOf i).toNat)
        case atStart => exact ⟨0, 1, Lib.hid (by decide), by omega, by omega, rfl, rfl, rfl⟩
        case round =>
          obtain ⟨k, P, hP, hk, hkh, rfl, rfl, rfl⟩ := hrel
          have hpb := pow_le12 k hk
          rw [← hP.out] at hpb
          by_cases hlt : (k : Int) < ht ∧ k < 12
          · have t1 : decide ((k : Int) < ht) = true := decide_eq_true hlt.1
            have t2 : decide ((k : Int) < 12) = true := decide_eq_true (by omega)
            have hpb2 := pow_le12 (k + 1) (by omega)
            rw [Int.pow_succ, ← hP.out] at hpb2
            go_wp2
            refine ⟨⟨k + 1, P * 2, Lib.hid (by rw [Int.pow_succ, hP.out]), by omega, by omega, rfl, rfl, trivial⟩, ?_⟩
            simp [intOf]; omega
          · have hv := Lib.hid (hVk.out k (by omega))
            rw [← hP.out] at hv
            have hP0 : (P == 0) = false := by simp; omega
            have hP1 : P ≠ 0 := by omega
            by_cases hl : (k : Int) < ht
            · have t1 : decide ((k : Int) < ht) = true := decide_eq_true hl
              have t2 : decide ((k : Int) < 12) = false := decide_eq_false (by omega)
              go_wp2
              go_ret
              refine ⟨congrArg (fun x => Ending.returned (Value.int IntKind.i64 x)) ?_, rfl⟩
              rw [hv.out]
              congr 1
              omega
            · have t1 : decide ((k : Int) < ht) = false := decide_eq_false hl
              go_wp2
              go_ret
              refine ⟨congrArg (fun x => Ending.returned (Value.int IntKind.i64 x)) ?_, rfl⟩
              rw [hv.out]
              congr 1
              omega
theorem HeightR (n : Int) (k : Nat) (h12 : k ≤ 12) (hlo : ∀ j : Nat, j < k → 1 < mWidth n j) (hhi : mWidth n k ≤ 1) (w : World) : Calls Tryd.prog 32 #[.int .i64 n] w fun e w' => e = .returned (.int .i64 (k : Int)) ∧ w' = w := by
  have HW := Lib.hid (fun (h : Int) w => WidthR n h w)
  go_enter Tryd.func32, Tryd.ntmps32
  go_wp2
  go_loopw [3] (fun i wr => ∃ j : Nat, j ≤ k ∧ i = .int .i64 (j : Int) ∧ wr = w) (fun i _ => k - (intOf i).toNat)
  case atStart => exact ⟨0, by omega, rfl, rfl⟩
  case round =>
    obtain ⟨j, hj, rfl, rfl⟩ := hrel
    by_cases hjk : j < k
    · have h1 := hlo j hjk
      have h2 : decide (1 < mWidth n j) = true := by simpa using h1
      go_wp2_with (go_at_call 49; refine (HW.out _ _).mono ?_; rintro e w' ⟨rfl, rfl⟩)
      refine ⟨⟨j + 1, by omega, by go_num, trivial⟩, ?_⟩
      simp [intOf]; omega
    · obtain rfl : j = k := by omega
      have h2 : decide (1 < mWidth n j) = false := by simp; omega
      go_wp2_with (go_at_call 49; refine (HW.out _ _).mono ?_; rintro e w' ⟨rfl, rfl⟩)
      go_ret
      exact ⟨rfl, rfl⟩
set_option maxRecDepth 10000 in
set_option maxHeartbeats 2000000 in
theorem upR (l : List (List UInt8)) (h32 : All32 l) (A : Option Addr) (n c : Nat) (w : World) (hr : Rd w A (hcl l)) (hn : l.length = n) (hm : n ≤ 4096) :
    Calls Tryd.prog 47 #[.slice A n c] w fun e w' => ∃ v, e = .returned v ∧ w'.ownsRow w.heap.size 28 32 v ((n + 1) / 2) (hcl (mUp l)) ∧ Below w.heap.size w w' := by
  replace hn := Lib.hid hn
  go_enter Tryd.func47, Tryd.ntmps47
  go_wp2
  go_loopw [3, 4] (fun v i wr => ∃ k : Nat, 2 * k ≤ n + 1 ∧ i = .int .i64 ((2 * k : Nat) : Int) ∧ wr.ownsRow w.heap.size 28 32 v k (hcl ((mUp l).take k)) ∧ Below w.heap.size w wr) (fun _ i _ => n + 1 - (intOf i).toNat)
  case atStart => exact ⟨0, by omega, rfl, World.ownsRow_nil _ _ _ _, Below.refl _ _⟩
  case round =>
    obtain ⟨k, hk, rfl, hown, hb⟩ := hrel
    by_cases hlt : 2 * k < n
    · have t1 : decide (((2 * k : Nat) : Int) < (n : Int)) = true := by simp; omega
      obtain ⟨b, off, rfl⟩ := hr.someA (hcl_ne h32 (by rw [hn.out]; omega))
      obtain ⟨x, hx⟩ : ∃ x, x = l.getD (2 * k) [] := ⟨_, rfl⟩
      obtain ⟨j, hj⟩ : ∃ j, j = min (2 * k + 1) (n - 1) := ⟨_, rfl⟩
      have hjn : j < n := by omega
      obtain ⟨y, hy⟩ : ∃ y, y = l.getD j [] := ⟨_, rfl⟩
      have hx32 : x.length = 32 := by rw [hx]; exact h32.get _ (by rw [hn.out]; omega)
      have hy32 : y.length = 32 := by rw [hy]; exact h32.get _ (by rw [hn.out]; omega)
      have hrx := Lib.hid (fun w' (hE : Below w.heap.size w w') => hx ▸ (hr.below hE).hash h32 (2 * k) (by rw [hn.out]; omega))
      have hry := Lib.hid (fun w' (hE : Below w.heap.size w w') => hy ▸ (hr.below hE).hash h32 j (by rw [hn.out]; omega))
      have hg : (mUp l)[k]? = some (pairB x y) := by
        rw [mUp_get l k (by rw [hn.out]; exact hlt), hn.out, ← hj, ← hx, ← hy]
      have hj1 : min (2 * (k : Int) + 1) ((n : Int) - 1) = (j : Int) := by omega
      have hjm : (if (n : Int) - 1 < 2 * (k : Int) + 1 then (n : Int) - 1 else 2 * (k : Int) + 1) = (j : Int) := by split <;> omega
      have hj2 : IntKind.i64.wrap (2 * (k : Int) + 1) = 2 * (k : Int) + 1 := by rw [IntKind.wrap_i64]; omega
      have hj3 : IntKind.i64.wrap ((n : Int) - 1) = (n : Int) - 1 := by rw [IntKind.wrap_i64]; omega
      have hj4 : ((2 * k : Nat) : Int) = 2 * (k : Int) := by omega
      have HQ := Lib.hid (fun w => PairR x y hx32 hy32 w)
      replace hj := Lib.hid hj
      replace hx := Lib.hid hx
      replace hy := Lib.hid hy
      replace hg := Lib.hid hg
      go_wp2_with fail
      have H1 : ∀ w', Ext wr.drew w' → Below w.heap.size w w' := fun w' hE => hb.trans (hE.drew.mono hb.size)
      refine wp_region_relT 16 [(15, OneW ((pairB x y).map bv))] Ext (by kernel_rfl) (by kernel_rfl) (by kernel_rfl) (by kernel_rfl) (by kernel_rfl) Ext.refl Ext.trans (by intro p hp v w w' hR; simp only [List.mem_singleton] at hp; subst hp; exact OneW.mono hR) ?_
      refine relMove Ext.refl rfl rfl rfl rfl _ (.inl rfl) (by conv => lhs; whnf) (by simp only [List.set_cons_succ, List.set_cons_zero]; rfl) ?_
      refine relMove Ext.refl rfl rfl rfl rfl _ (.inl rfl) (by conv => lhs; whnf) (by simp only [List.set_cons_succ, List.set_cons_zero]; rfl) ?_
      refine relMove Ext.refl rfl rfl rfl rfl _ (.inl rfl) (by conv => lhs; whnf) (by simp only [List.set_cons_succ, List.set_cons_zero]; rfl) ?_
      refine relPure Ext.refl rfl rfl rfl rfl (fun w _ => by go_simp; first | done | rfl) (by simp only [List.set_cons_succ, List.set_cons_zero]; rfl) ?_
      refine relPure Ext.refl rfl rfl rfl rfl (c := .agg (hcs x)) (fun w hw => exec_load_mid _ _ rfl b (off + 2 * k * 32) rfl (x.map bv) _ (hrx.out w (H1 w hw)) Tryd.underlying28 rfl (by rw [List.length_map, hx32]; kernel_rfl)) (by simp only [List.set_cons_succ, List.set_cons_zero]; rfl) ?_
      refine relMove Ext.refl rfl rfl rfl rfl _ (.inl rfl) (by conv => lhs; whnf) (by simp only [List.set_cons_succ, List.set_cons_zero]; rfl) ?_
      refine relMove Ext.refl rfl rfl rfl rfl _ (.inl rfl) (by conv => lhs; whnf) (by simp only [List.set_cons_succ, List.set_cons_zero]; rfl) ?_
      refine relPure Ext.refl rfl rfl rfl rfl (fun w _ => by go_simp; first | done | rfl) (by simp only [List.set_cons_succ, List.set_cons_zero]; rfl) ?_
      refine relMove Ext.refl rfl rfl rfl rfl _ (.inl rfl) (by conv => lhs; whnf) (by simp only [List.set_cons_succ, List.set_cons_zero]; rfl) ?_
      refine relPure Ext.refl rfl rfl rfl rfl (fun w _ => by go_simp; first | done | rfl) (by simp only [List.set_cons_succ, List.set_cons_zero]; rfl) ?_
      refine relPure Ext.refl rfl rfl rfl rfl (fun w _ => by go_simp; first | done | rfl) (by simp only [List.set_cons_succ, List.set_cons_zero]; rfl) ?_
      refine relPure Ext.refl rfl rfl rfl rfl (c := .int .i64 (j : Int)) (fun w _ => by go_simp; first | done | rfl | exact hjm) (by simp only [List.set_cons_succ, List.set_cons_zero]; rfl) ?_
      refine relPure Ext.refl rfl rfl rfl rfl (fun w _ => by go_simp; first | done | rfl) (by simp only [List.set_cons_succ, List.set_cons_zero]; rfl) ?_
      refine relPure Ext.refl rfl rfl rfl rfl (c := .agg (hcs y)) (fun w hw => exec_load_mid _ _ rfl b (off + j * 32) rfl (y.map bv) _ (hry.out w (H1 w hw)) Tryd.underlying28 rfl (by rw [List.length_map, hy32]; kernel_rfl)) (by simp only [List.set_cons_succ, List.set_cons_zero]; rfl) ?_
      refine relCall1 rfl rfl rfl rfl (c := .agg (hcs (pairB x y))) 50 #[.agg (hcs x), .agg (hcs y)] (fun w => by go_simp) (fun w hw => (HQ.out w).mono ?_) (by simp only [List.set_cons_succ, List.set_cons_zero]; rfl) ?_
      · rintro e w' ⟨rfl, hb⟩
        exact ⟨rfl, hb⟩
      refine relWord _ rfl (fun w hw => fill_none rfl (relOp_yes rfl ?_)) ?_
      · rw [exec_buildH (pairB x y) (pairB_length x y) _ rfl (by rw [eval_evL]; rfl)]
        exact ⟨(Below.refl _ _).alloc (Nat.le_refl _) _, _, rfl, Av.rd (t := 28) (heap_alloc_new _ _)⟩
      refine relEnd fun w2 hw2 => fill_take rfl rfl fun v hv => fill_end ?_
      simp only [List.set_cons_succ, List.set_cons_zero, List.drop_succ_cons, List.drop_zero]
      obtain ⟨B, rfl, hrb⟩ := hv
      have hb2 := H1 w2 hw2
      rw [← hcl_one] at hrb
      replace hown := own_below hown hw2.drew.below
      go_wp2_with (at_builtin; refine wpList_appH hown hb2 hb2.size (All32.one (pairB_length x y)) 1 1 hrb rfl (by omega) rfl (.tmp 11) (.tmp 26) rfl rfl rfl ?_; intro v3 w3 hown3 hb3 hz3 _ _)
      refine ⟨⟨k + 1, by omega, by rw [show ((2 * (k + 1) : Nat) : Int) = 2 * (k : Int) + 2 by omega], ?_, hb3⟩, ?_⟩
      · rw [List.take_add_one, hg.out]; exact hown3
      · simp only [intOf]; omega
    · have t1 : decide (((2 * k : Nat) : Int) < (n : Int)) = false := by simp; omega
      go_wp2
      go_ret
      refine ⟨_, rfl, ?_, hb⟩
      rw [List.take_of_length_le (by rw [mUp_length, hn.out]; omega)] at hown
      rw [show (n + 1) / 2 = k by omega]
      exact hown
end Go.Proofs.YtmdllemgjhkphaaDoor
/- The law for a range over merkle.levels: the body is handed slices that lie in memory, newly made. -/
namespace Go.Proofs.YtmdllemgjhkphaaDoor
open Go.RowKit

/-- The hashes x lie from A on, in a block at or beyond base. -/
def RdF (base : Nat) (W : World) (A : Option Addr) (x : List (List UInt8)) : Prop := Rd W A (hcl x) ∧ ∀ a, A = some a → base ≤ a.block
theorem Rd.grown {W W' : World} {A : Option Addr} {xs : List Value} {row : Option Nat} (h : Rd W A xs) (hg : W.grownBy W' row) (hrow : ∀ r, row = some r → ∃ o : Obj, W.heap[r]? = some o ∧ o.isCells = false) : Rd W' A xs :=
  h.keep fun _ _ _ hv => cell_kept hv hg hrow
theorem Below.grownNone {w w' : World} (h : Below w.heap.size w w') : w.grownBy w' none := ⟨h.os, h.tape, h.output, h.size, fun k hk _ => h.block k hk⟩

/-- What the iterator promises: each of lvs, in its order, in new memory. -/
def LvSeq (n : Nat) (P : Program) (g : Nat) (lb : Array Value) (lvs : List (List (List UInt8))) (w : World) : Prop :=
  ∀ (l : Nat) (J : Nat → World → Prop) (W : World), Below w.heap.size w W → (∀ j W, J j W → Tabs W) →
    (∀ j x W0 W1 A c, lvs[j]? = some x → J j W0 → Below W0.heap.size W0 W1 → RdF W0.heap.size W1 A x → x.length ≤ c → YieldAt Fence.wide (n - 1) P l #[.slice A x.length c] W1 fun e W' =>
      e = .returned (.bool true) ∧ J (j + 1) W' ∧ Rd W' A (hcl x)) →
    J 0 W →
    CallsIn Fence.wide n P g (#[.func (.yield l) #[] #[]] ++ lb) W fun e W' => (∃ v, e = .returned v) ∧ J lvs.length W'

/-- How a round's body ends. -/
def lvPost (B : Nat) (A : Option Addr) (x : List (List UInt8)) (R : World → Prop) (W : World) : Exit → Act → World → Prop
  | .normal, _, W' => KeepsFrom B W W' ∧ Rd W' A (hcl x) ∧ R W'
  | _, _, _ => False

theorem wpIn_rangeFunc_lv {P : Program} {n : Nat} {g : Operand} {ps : Array Tmp} {assign body : Code} {Q : Exit → Act → World → Prop} {a : Act} {w : World}
    (h1 : 1 ≤ n) {gf : Nat} {lb : Array Value} (hg : a.eval g = .func (.func gf) #[] lb) (eg : ∀ args w, (callFunc gf args).run P w = .ok (.enter gf args) w)
    {lvs : List (List (List UInt8))} (hseq : LvSeq (n - 1) P gf lb lvs w) (hps : ps.size = 1)
    (I : Nat → Nat → World → Prop) (hI : ∀ j b W W' row, I j b W → W.grownBy W' row → (∀ r, row = some r → w.heap.size ≤ r ∧ ∃ o : Obj, W.heap[r]? = some o ∧ o.isCells = false) → I j b W')
    (hT : ∀ j b W, I j b W → Tabs W) (h0 : ∀ b, w.heap.size ≤ b → I 0 b w) (a₁ : Value → Act)
    (hassign : ∀ (l : Nat) (v : Value) (W : World) (K : Act → World → Prop), K (a₁ v) W →
      assign.wpIn (Fence.wide.inRound l) (n - 1 - 1) P (Exit.then K (fun _ _ _ => False)) { tmps := (ps.zip #[v]).foldl (fun t (p, v) => t.setIfInBounds p v) a.tmps, defers := [] } W)
    (hbody : ∀ (l j : Nat) (x : List (List UInt8)) (b : Nat) (W : World) (A : Option Addr) (c : Nat), lvs[j]? = some x → I j b W → RdF b W A x → x.length ≤ c → b ≤ W.heap.size →
      body.wpIn (Fence.wide.inRound l) (n - 1 - 1) P (lvPost w.heap.size A x (fun W' => I (j + 1) W'.heap.size W') W) (a₁ (.slice A x.length c)) W)
    (hdone : ∀ (D : Nat) (W : World), w.heap.size ≤ D → I lvs.length W.heap.size W → W.heap[D]? = some (.deferred (some [])) → Q .normal { a with defers := { target := .collected D, args := #[] } :: a.defers } W) :
    (Code.rangeFunc g ps assign body).wpIn Fence.wide n P Q a w := by
  refine wpIn_rangeFunc ?_
  intro fn hfn
  show ∃ l, _
  obtain ⟨rec, hrec⟩ : ∃ rec : LoopState → Option Code → Loop, rec = fun st pe => { state := st, pending := pe, fn, tmps := a.tmps, params := ps, assign, body, defers := w.heap.size } := ⟨_, rfl⟩
  obtain ⟨W1, hW1⟩ : ∃ W1, (w.alloc (.deferred (some []))).alloc (.loop (rec .ready none)) = W1 := ⟨_, rfl⟩
  have hL1 : W1.heap[w.heap.size + 1]? = some (.loop (rec .ready none)) := by
    rw [← hW1]; have := World.alloc_heap_new (w.alloc (.deferred (some []))) (.loop (rec .ready none)); rwa [World.size_alloc] at this
  have hK1 : W1.heap[w.heap.size]? = some (.deferred (some [])) := by
    rw [← hW1]; exact (Below.heap_alloc _ _ _ (by simp)).trans (World.alloc_heap_new w _)
  have hb1 : Below w.heap.size w W1 := by
    rw [← hW1]; exact ((Below.refl _ w).alloc (Nat.le_refl _) _).alloc (by simp) _
  have hI1 : I 0 W1.heap.size W1 := hI _ _ _ _ none (h0 _ hb1.size) (Below.grownNone hb1) (fun r e => by cases e)
  refine ⟨w.heap.size + 1, [{ target := .collected w.heap.size, args := #[] }], W1, { target := .fn (.func gf) lb, args := #[.func (.yield (w.heap.size + 1)) #[] #[]] }, W1, gf,
    #[.func (.yield (w.heap.size + 1)) #[] #[]] ++ lb, W1, ?_, ?_, ?_, ?_, fun _ => h1, ?_⟩
  · rw [← hW1, hrec]; exact run_enterLoop_outer _ _ _ _ _
  · simp only [resolve, hg]
    simp [go_sem]
  · intro f' _; trivial
  · simp [invoke, go_sem, eg]
  · refine (hseq (w.heap.size + 1)
      (fun j W => I j W.heap.size W ∧ W.heap[w.heap.size + 1]? = some (.loop (rec .ready none)) ∧ W.heap[w.heap.size]? = some (.deferred (some [])))
      W1 hb1 (fun j W h => hT _ _ _ h.1) ?_ ⟨hI1, hL1, hK1⟩).mono ?_
    · rintro j x W0 W A c hx ⟨hi0, hl0, hk0⟩ hB hrf hc
      have hi : I j W0.heap.size W := hI _ _ _ _ none hi0 (Below.grownNone hB) (fun r e => by cases e)
      have hl : W.heap[w.heap.size + 1]? = some (.loop (rec .ready none)) := (hB.block _ (Array.getElem?_eq_some_iff.1 hl0).1).trans hl0
      have hk : W.heap[w.heap.size]? = some (.deferred (some [])) := (hB.block _ (Array.getElem?_eq_some_iff.1 hk0).1).trans hk0
      have hlt : w.heap.size + 1 < W.heap.size := (Array.getElem?_eq_some_iff.1 hl).1
      have hy := run_yield (P := P) (args := #[Value.slice A x.length c]) hl (by rw [hrec]; simp [hps])
      rw [hrec] at hy
      refine ⟨fn, _, assign, body, hy, roundIn_of_wpIn hfn (hassign _ _ W _ ⟨_, run_beginRound hl (by rw [hrec]), ?_⟩)⟩
      have hl2 : (W.putObj (w.heap.size + 1) (.loop { rec .ready none with state := .busy })).heap[w.heap.size + 1]? = some (.loop { rec .ready none with state := .busy }) := World.putObj_heap_same hlt
      have hk2 : (W.putObj (w.heap.size + 1) (.loop { rec .ready none with state := .busy })).heap[w.heap.size]? = some (.deferred (some [])) := (World.putObj_heap_other (by omega)).trans hk
      have hg2 := grownBy_putObj' W (w.heap.size + 1) (.loop { rec .ready none with state := .busy })
      have hr2 : Rd (W.putObj (w.heap.size + 1) (.loop { rec .ready none with state := .busy })) A (hcl x) := hrf.1.grown hg2 (fun r e => by cases e; exact ⟨_, hl, rfl⟩)
      have hi2 := hI _ _ _ _ _ hi hg2 (fun r e => by cases e; exact ⟨by omega, _, hl, rfl⟩)
      refine wpIn_mono (hbody _ j x W0.heap.size _ A c hx hi2 ⟨hr2, hrf.2⟩ hc (Nat.le_trans hB.size hg2.size)) ?_
      rintro e a3 W3 hp
      cases e with
      | normal =>
        obtain ⟨hk3, hr3, hi3⟩ := hp
        have hl3 := hk3.same _ _ (by omega) hl2 rfl
        have hd3 := hk3.same _ _ (Nat.le_refl _) hk2 rfl
        have hend := run_endRound (P := P) none hl3
        have hg3 := grownBy_putObj' W3 (w.heap.size + 1) (.loop (rec .ready none))
        rw [hrec] at hend hl3
        refine ⟨_, _, hend, rfl, ⟨?_, ?_, ?_⟩, ?_⟩
        · have := hI _ _ _ _ _ hi3 hg3 (fun r e => by cases e; exact ⟨by omega, _, hl3, rfl⟩)
          rw [hrec] at this
          simpa using this
        · rw [hrec]; exact World.putObj_heap_same (Array.getElem?_eq_some_iff.1 hl3).1
        · exact (World.putObj_heap_other (by omega)).trans hd3
        · have := hr3.grown hg3 (fun r e => by cases e; exact ⟨_, hl3, rfl⟩)
          rw [hrec] at this
          exact this
      | _ => exact hp.elim
    · rintro e W2 ⟨⟨v, rfl⟩, hi, hl, hk⟩
      have hend := run_endLoop (P := P) hl (by rw [hrec]; simp)
      have hi3 := hI _ _ _ _ _ hi (grownBy_putObj' W2 (w.heap.size + 1) (.loop { rec .ready none with state := .exhausted })) (fun r e => by cases e; exact ⟨by omega, _, hl, rfl⟩)
      have hk3 := (World.putObj_heap_other (w := W2) (r := w.heap.size + 1) (k := w.heap.size) (o := .loop { rec .ready none with state := .exhausted }) (by omega)).trans hk
      rw [hrec] at hend hi3 hk3
      exact ⟨none, _, hend, hdone _ _ (Nat.le_refl _) (by simpa using hi3) hk3⟩
end Go.Proofs.YtmdllemgjhkphaaDoor
