/- Layer 4's laws: the example. -/
import Derived.Test.YtkbjlbcofooajaaCBytes
import Derived.Test.YtkbjlbcofooajaaCPut
namespace Go.Proofs.Ytkbjlbcofooajaa
open Go.RowKit
attribute [local go_sem high] slB_lh slB_l slB_h nilB_eq

/-- a block of bytes that was just laid -/
theorem Rd.lit (w : World) (bs : List UInt8) (cs : Array Value) (h : cs = (bs.map bv).toArray) : Rd (w.alloc (.cells cs 5)) (some ⟨w.heap.size, 0, none⟩) (bs.map bv) := by
  subst h
  refine .inr ⟨_, _, rfl, fun j u hu => ?_⟩
  have := cell_of_row (w.alloc (.cells (bs.map bv).toArray 5)) w.heap.size j (bs.map bv).toArray 5 (0, 0) (heap_alloc_new w _)
  rw [Nat.zero_add, this]
  simpa using hu

set_option maxHeartbeats 400000 in
theorem law_awake (w : World) :
    Calls Try.prog 8 #[] w fun e w' => e = .returned (.bool true) ∧ Below w.heap.size w w' := by
  have hr0 := Rd.lit w [253, 253, 0] #[.int .u8 253, .int .u8 253, .int .u8 0] rfl
  have H1 := Lib.hid (compact_Get [253, 253, 0] 253 3 0 (by decide) _ 3 3 _ hr0 rfl (by omega))
  have H2 := Lib.hid (compact_Put [] none 0 0 253 (by omega) [253, 253, 0] (by decide) _ (Rd.nil (w.alloc (.cells #[.int .u8 253, .int .u8 253, .int .u8 0] 5)) none) rfl (by omega))
  clear hr0
  go_enter Try.func8, Try.ntmps8
  go_wp2_with (first
    | (go_at_call 10; refine (H1.out).mono ?_; rintro e w' ⟨rfl, rfl⟩)
    | (go_at_call 9; refine (H2.out).mono ?_; rintro e w' ⟨v, rfl, ho, hb⟩; obtain ⟨A, c, rfl, hc1, hc2⟩ := ho.formN 3 rfl; have hcv := conv_str ho.rd (n := 3) rfl)
    | (go_at_call 11; refine (compact_Size 252 (by omega) _).mono ?_; rintro e w' ⟨rfl, rfl⟩))
  go_ret
  exact ⟨rfl, ((Below.refl w.heap.size w).alloc (Nat.le_refl _) _).trans (hb.mono (by simp))⟩
end Go.Proofs.Ytkbjlbcofooajaa
