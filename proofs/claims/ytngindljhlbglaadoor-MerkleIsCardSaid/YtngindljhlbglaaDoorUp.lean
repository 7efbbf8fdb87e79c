/- merkle.above: the level above one. -/
import Derived.Test.YtngindljhlbglaaDoorMk
import Derived.Great.BuildSlice
namespace Go.Proofs.YtngindljhlbglaaDoor
open Go.RowKit

set_option maxRecDepth 10000 in
/-- a literal of hashes -/
theorem run_buildH (w : World) (l : List (List UInt8)) (h32 : All32 l) (n : Nat) (hn : l.length = n) (hp : 0 < n) (hs : n ≤ 1000) (parts : Array (Nat × Value)) (hparts : parts.toList = ((l.map fun x => Value.agg (hcs x)).zipIdx 0).map fun x => (x.2, x.1)) :
    (Instr.buildSlice 22 n parts).run Tryd.prog w = .ok (.slice (some ⟨w.heap.size, 0, none⟩) n n) (w.alloc (.cells (hcl l).toArray 25)) := by
  obtain ⟨i0, hi, hz⟩ := Option.map_eq_some_iff.1 info_h
  obtain ⟨i1, hi1, hz1⟩ := Option.map_eq_some_iff.1 zero_h
  obtain rfl : i1 = i0 := by rw [hi] at hi1; exact (Option.some.inj hi1).symm
  obtain ⟨z, hz2, hz3⟩ := Option.map_eq_some_iff.1 hz1
  injection hz with hz4 hz5
  refine run_buildSlice w _ _ n parts _ i1 z Tryd.underlying22 hi hz2 (by rw [hz4]; omega) (by rw [hz4]; omega) ?_
  rw [hparts, hz4]
  have := Great.fill_whole (s := 32) (by omega) (l.map fun x => Value.agg (hcs x)) ((Array.range (n * 32)).map (z.cells[· % z.cells.size]!)) (fun v hv => by
    obtain ⟨x, hx, rfl⟩ := List.mem_map.1 hv
    simp [Value.cells, h32 x hx]) (by simp [hn])
  rw [this]
  congr 2
  rw [List.flatMap_map, hcl]
  simp [Value.cells]
theorem exec_buildH {o : Oper} {ρ : Operand → Value} {w : World} (x : List UInt8) (hx : x.length = 32) (y : Operand) (ho : o.op = .buildSlice 22 1 #[(0, y)]) (hy : ρ y = .agg (hcs x)) :
    (execOp ρ o).run Tryd.prog w = .ok (.value (.slice (some ⟨w.heap.size, 0, none⟩) 1 1)) (w.alloc (.cells (x.map bv).toArray 25)) := by
  have := run_buildH w [x] (All32.one hx) 1 rfl (by omega) (by omega) #[(0, .agg (hcs x))] rfl
  rw [hcl_one] at this
  unfold execOp
  simp only [ho, Sem.run_bind, List.map_toArray, List.map_cons, List.map_nil, hy, this, Result.andThen_ok]
  rfl

/-- the level that stands on a level -/
def mUp : List (List UInt8) → List (List UInt8)
  | [] => []
  | [x] => [pairB x x]
  | x :: y :: r => pairB x y :: mUp r
theorem mUp_length : ∀ l : List (List UInt8), (mUp l).length = (l.length + 1) / 2
  | [] => by rw [mUp]; rfl
  | [_] => by rw [mUp]; simp
  | _ :: _ :: r => by rw [mUp, List.length_cons, mUp_length r, List.length_cons, List.length_cons]; omega
theorem mUp_32 : ∀ l : List (List UInt8), All32 (mUp l)
  | [] => fun _ h => by cases h
  | [x] => by rw [mUp]; exact All32.one (pairB_length x x)
  | x :: y :: r => fun z hz => by
    rw [mUp] at hz
    rcases List.mem_cons.1 hz with hz | hz
    · rw [hz]; exact pairB_length x y
    · exact mUp_32 r z hz
theorem mUp_get : ∀ (l : List (List UInt8)) (k : Nat), 2 * k < l.length → (mUp l)[k]? = some (pairB (l.getD (2 * k) []) (l.getD (min (2 * k + 1) (l.length - 1)) []))
  | [], k, h => by simp at h
  | [x], k, h => by
    obtain rfl : k = 0 := by simp at h; omega
    rw [mUp]; simp
  | x :: y :: r, 0, h => by
    simp [mUp]
  | x :: y :: r, k + 1, h => by
    rw [mUp, List.getElem?_cons_succ, mUp_get r k (by simp at h; omega)]
    simp only [List.length_cons] at h ⊢
    rw [show 2 * (k + 1) = 2 * k + 1 + 1 by omega, show min (2 * k + 1 + 1 + 1) (r.length + 1 + 1 - 1) = min (2 * k + 1) (r.length - 1) + 1 + 1 by omega]
    rfl

set_option maxRecDepth 10000 in
set_option maxHeartbeats 2000000 in
theorem above (l : List (List UInt8)) (h32 : All32 l) (A : Option Addr) (n c : Nat) (w : World) (hr : Rd w A (hcl l)) (hn : l.length = n) (hm : n ≤ 4096) (ht : Tabs w) :
    Calls Tryd.prog 32 #[.slice A n c] w fun e w' => ∃ v, e = .returned v ∧ w'.ownsRow w.heap.size 25 32 v ((n + 1) / 2) (hcl (mUp l)) ∧ Below w.heap.size w w' := by
  replace hn := Lib.hid hn
  go_enter Tryd.func32, Tryd.ntmps32
  go_wp2
  go_loopw [3, 4] (fun v i wr => ∃ k : Nat, 2 * k ≤ n + 1 ∧ i = .int .i64 ((2 * k : Nat) : Int) ∧ wr.ownsRow w.heap.size 25 32 v k (hcl ((mUp l).take k)) ∧ Below w.heap.size w wr) (fun _ i _ => n + 1 - (intOf i).toNat)
  case atStart => exact ⟨0, by omega, rfl, World.ownsRow_nil _ _ _ _, Below.refl _ _⟩
  case round =>
    obtain ⟨k, hk, rfl, hown, hb⟩ := hrel
    by_cases hlt : 2 * k < n
    · have t1 : decide (((2 * k : Nat) : Int) < (n : Int)) = true := by simp; omega
      obtain ⟨b, off, rfl⟩ := hr.someA (hcl_ne h32 (by rw [hn.out]; omega))
      obtain ⟨x, hx⟩ : ∃ x, x = l.getD (2 * k) [] := ⟨_, rfl⟩
      obtain ⟨j, hj⟩ : ∃ j, j = min (2 * k + 1) (n - 1) := ⟨_, rfl⟩
      have hjn : j < n := by omega
      obtain ⟨y, hy⟩ : ∃ y, y = l.getD j [] := ⟨_, rfl⟩
      have hx32 : x.length = 32 := by rw [hx]; exact h32.get _ (by rw [hn.out]; omega)
      have hy32 : y.length = 32 := by rw [hy]; exact h32.get _ (by rw [hn.out]; omega)
      have hrx := Lib.hid (fun w' (hE : Below w.heap.size w w') => hx ▸ (hr.below hE).hash h32 (2 * k) (by rw [hn.out]; omega))
      have hry := Lib.hid (fun w' (hE : Below w.heap.size w w') => hy ▸ (hr.below hE).hash h32 j (by rw [hn.out]; omega))
      have hg : (mUp l)[k]? = some (pairB x y) := by
        rw [mUp_get l k (by rw [hn.out]; exact hlt), hn.out, ← hj, ← hx, ← hy]
      have HP := Lib.hid (paired_of (2 * k) n (by omega) (by omega) (by omega))
      rw [if_pos (by omega), ← hj] at HP
      have HQ := Lib.hid (fun w (ht : Tabs w) => Pair x y hx32 hy32 w ht)
      replace hj := Lib.hid hj
      replace hx := Lib.hid hx
      replace hy := Lib.hid hy
      replace hg := Lib.hid hg
      go_wp2_with fail
      have H1 : ∀ w', Ext wr.drew w' → Below w.heap.size w w' := fun w' hE => hb.trans (hE.drew.mono hb.size)
      refine wp_region_relT 14 [(13, OneW ((pairB x y).map bv))] Ext (by kernel_rfl) (by kernel_rfl) (by kernel_rfl) (by kernel_rfl) (by kernel_rfl) Ext.refl Ext.trans (by intro p hp v w w' hR; simp only [List.mem_singleton] at hp; subst hp; exact OneW.mono hR) ?_
      refine relMove Ext.refl rfl rfl rfl rfl _ (.inl rfl) (by conv => lhs; whnf) (by simp only [List.set_cons_succ, List.set_cons_zero]; rfl) ?_
      refine relMove Ext.refl rfl rfl rfl rfl _ (.inl rfl) (by conv => lhs; whnf) (by simp only [List.set_cons_succ, List.set_cons_zero]; rfl) ?_
      refine relMove Ext.refl rfl rfl rfl rfl _ (.inl rfl) (by conv => lhs; whnf) (by simp only [List.set_cons_succ, List.set_cons_zero]; rfl) ?_
      refine relPure Ext.refl rfl rfl rfl rfl (fun w _ => by go_simp; first | done | rfl) (by simp only [List.set_cons_succ, List.set_cons_zero]; rfl) ?_
      refine relPure Ext.refl rfl rfl rfl rfl (c := .agg (hcs x)) (fun w hw => exec_load_mid _ _ rfl b (off + 2 * k * 32) rfl (x.map bv) _ (hrx.out w (H1 w hw)) Tryd.underlying25 rfl (by rw [List.length_map, hx32]; kernel_rfl)) (by simp only [List.set_cons_succ, List.set_cons_zero]; rfl) ?_
      refine relMove Ext.refl rfl rfl rfl rfl _ (.inl rfl) (by conv => lhs; whnf) (by simp only [List.set_cons_succ, List.set_cons_zero]; rfl) ?_
      refine relMove Ext.refl rfl rfl rfl rfl _ (.inl rfl) (by conv => lhs; whnf) (by simp only [List.set_cons_succ, List.set_cons_zero]; rfl) ?_
      refine relMove Ext.refl rfl rfl rfl rfl _ (.inl rfl) (by conv => lhs; whnf) (by simp only [List.set_cons_succ, List.set_cons_zero]; rfl) ?_
      refine relPure Ext.refl rfl rfl rfl rfl (fun w _ => by go_simp; first | done | rfl) (by simp only [List.set_cons_succ, List.set_cons_zero]; rfl) ?_
      refine relCall1 rfl rfl rfl rfl (c := .int .i64 (j : Int)) 27 #[.int .i64 ((2 * k : Nat) : Int), .int .i64 (n : Int)] (fun w => by go_simp) (fun w hw => (HP.out w).mono ?_) (by simp only [List.set_cons_succ, List.set_cons_zero]; rfl) ?_
      · rintro e w' ⟨rfl, rfl⟩
        exact ⟨rfl, Ext.refl _⟩
      refine relPure Ext.refl rfl rfl rfl rfl (fun w _ => by go_simp; first | done | rfl) (by simp only [List.set_cons_succ, List.set_cons_zero]; rfl) ?_
      refine relPure Ext.refl rfl rfl rfl rfl (c := .agg (hcs y)) (fun w hw => exec_load_mid _ _ rfl b (off + j * 32) rfl (y.map bv) _ (hry.out w (H1 w hw)) Tryd.underlying25 rfl (by rw [List.length_map, hy32]; kernel_rfl)) (by simp only [List.set_cons_succ, List.set_cons_zero]; rfl) ?_
      refine relCall1 rfl rfl rfl rfl (c := .agg (hcs (pairB x y))) 11 #[.agg (hcs x), .agg (hcs y)] (fun w => by go_simp) (fun w hw => (HQ.out w (ht.below (H1 w hw))).mono ?_) (by simp only [List.set_cons_succ, List.set_cons_zero]; rfl) ?_
      · rintro e w' ⟨rfl, hb⟩
        exact ⟨rfl, hb⟩
      refine relWord _ rfl (fun w hw => fill_none rfl (relOp_yes rfl ?_)) ?_
      · rw [exec_buildH (pairB x y) (pairB_length x y) _ rfl (by rw [eval_evL]; rfl)]
        exact ⟨(Below.refl _ _).alloc (Nat.le_refl _) _, _, rfl, Av.rd (t := 25) (heap_alloc_new _ _)⟩
      refine relEnd fun w2 hw2 => fill_take rfl rfl fun v hv => fill_end ?_
      simp only [List.set_cons_succ, List.set_cons_zero, List.drop_succ_cons, List.drop_zero]
      obtain ⟨B, rfl, hrb⟩ := hv
      have hb2 := H1 w2 hw2
      rw [← hcl_one] at hrb
      replace hown := own_below hown hw2.drew.below
      go_wp2_with (at_builtin; refine wpList_appH hown hb2 hb2.size (All32.one (pairB_length x y)) 1 1 hrb rfl (by omega) rfl (.tmp 11) (.tmp 24) rfl rfl rfl ?_; intro v3 w3 hown3 hb3 hz3 _ _)
      refine ⟨⟨k + 1, by omega, by rw [show ((2 * (k + 1) : Nat) : Int) = 2 * (k : Int) + 2 by omega], ?_, hb3⟩, ?_⟩
      · rw [List.take_add_one, hg.out]; exact hown3
      · simp only [intOf]; omega
    · have t1 : decide (((2 * k : Nat) : Int) < (n : Int)) = false := by simp; omega
      go_wp2
      go_ret
      refine ⟨_, rfl, ?_, hb⟩
      rw [List.take_of_length_le (by rw [mUp_length, hn.out]; omega)] at hown
      rw [show (n + 1) / 2 = k by omega]
      exact hown
end Go.Proofs.YtngindljhlbglaaDoor
