/- merkle.levels: the iterator's contract. -/
import Derived.Test.YtngindljhlbglaaDoorRng
namespace Go.Proofs.YtngindljhlbglaaDoor
open Go.RowKit Go.Shelf
attribute [local go_sem] Oper.semAt_some

/-- a level and all above it -/
def mLvF : Nat → List (List UInt8) → List (List (List UInt8))
  | 0, l => [l]
  | f + 1, l => if l.length ≤ 1 then [l] else l :: mLvF f (mUp l)
/-- all levels -/
def mLv (l : List (List UInt8)) : List (List (List UInt8)) := if l.length = 0 ∨ 4096 < l.length then [] else mLvF 12 l
theorem mLvF_one (f : Nat) (l : List (List UInt8)) (h : l.length ≤ 1) : mLvF f l = [l] := by
  cases f with
  | zero => rfl
  | succ f => rw [mLvF, if_pos h]
theorem mLvF_more (f : Nat) (l : List (List UInt8)) (h : 1 < l.length) (hf : l.length ≤ 2 ^ f) : ∃ f', f = f' + 1 ∧ mLvF f l = l :: mLvF f' (mUp l) ∧ (mUp l).length ≤ 2 ^ f' := by
  cases f with
  | zero => simp at hf; omega
  | succ f => exact ⟨f, rfl, by rw [mLvF, if_neg (by omega)], by rw [mUp_length]; rw [Nat.pow_succ] at hf; omega⟩

set_option maxRecDepth 10000 in
set_option maxHeartbeats 2000000 in
theorem levels1_in (n : Nat) (hn : 2 ≤ n) (l : List (List UInt8)) (h32 : All32 l) (A0 : Option Addr) (m c0 : Nat) (hm : l.length = m) (Bx : Nat) (w : World) (hcell : w.cell? ⟨Bx, 0, none⟩ = some (.slice A0 m c0)) (hr : Rd w A0 (hcl l)) (hBx : Bx < w.heap.size) :
    LvSeq n Tryd.prog 30 #[.pointer (some ⟨Bx, 0, none⟩)] (mLv l) w := by
  intro rec J W hW hT hY h0
  have hc := (hW.cell (p := ⟨Bx, 0, none⟩) hBx).trans hcell
  have hrW := hr.below hW
  have hn1 : 1 ≤ n - 1 := by omega
  clear hcell hr
  refine callsIn_of_wp Tryd.func30 rfl trivial ?_ rfl
  simp only [Tryd.ntmps30, List.size_toArray, List.length_cons, List.length_nil, Nat.reduceAdd, Nat.reduceSub, Array.replicate_succ, Array.replicate_zero, List.push_toArray, List.append_toArray, List.nil_append, List.cons_append]
  by_cases hz : m = 0
  · subst hz
    gi_wp2
    refine bodyPost_ret (results_none rfl _ _ _) rfl ⟨⟨_, rfl⟩, ?_⟩
    rw [mLv, if_pos (.inl hm)]
    exact h0
  · have z1 : ((m : Int) == 0) = false := by simp; omega
    by_cases hbig : 4096 < m
    · have z2 : decide ((4096 : Int) < (m : Int)) = true := by simp; omega
      gi_wp2
      refine bodyPost_ret (results_none rfl _ _ _) rfl ⟨⟨_, rfl⟩, ?_⟩
      rw [mLv, if_pos (.inr (by omega))]
      exact h0
    · have z2 : decide ((4096 : Int) < (m : Int)) = false := by simp; omega
      have hlv : mLv l = mLvF 12 l := by rw [mLv, if_neg (by omega)]
      generalize mLv l = lvs at *
      have HC := Lib.hid (CloneH l h32 A0 m c0 W hrW hm (by omega))
      replace hm := Lib.hid hm
      gi_wp2
      refine ⟨trivial, fun h => absurd h (by decide), ?_⟩
      refine (callsIn_wide.2 HC.out).mono ?_
      rintro e w1 ⟨v1, rfl, hown1, hb1⟩
      obtain ⟨A1, c1, rfl, hc1, _⟩ := own_form hown1
      have hfr1 : RdF W.heap.size w1 A1 l := ⟨own_rd hown1, fun a ha => (World.ownsRow.lt hown1 a.block (by subst ha; rfl)).1⟩
      clear HC hown1
      gi_wp2
      gi_loopw [3] (fun v wr => ∃ (f j : Nat) (x : List (List UInt8)) (A : Option Addr) (c : Nat) (W0 : World), v = .slice A x.length c ∧ x.length ≤ c ∧ lvs.drop j = mLvF f x ∧ j < lvs.length ∧ 0 < x.length ∧ x.length ≤ 4096 ∧ x.length ≤ 2 ^ f ∧ All32 x ∧ J j W0 ∧ Below W0.heap.size W0 wr ∧ RdF W0.heap.size wr A x) (fun v _ => sliceLen v)
      case atStart =>
        exact ⟨12, 0, l, A1, c1, W, by rw [hm.out], by rw [hm.out]; exact hc1, by rw [List.drop_zero, hlv], by rw [hlv, mLvF]; split <;> simp, by rw [hm.out]; omega, by rw [hm.out]; omega, by rw [hm.out]; omega, h32, h0, hb1, hfr1⟩
      case round =>
        obtain ⟨f, j, x, A, c, W0, rfl, hxc, hdrop, hj, hx0, hx4, hxf, hx32, hJ, hB, hrf⟩ := hrel
        have hx : lvs[j]? = some x := by
          have : (lvs.drop j)[0]? = some x := by
            rw [hdrop]
            cases f with
            | zero => rfl
            | succ f => rw [mLvF]; split <;> rfl
          simpa using this
        obtain ⟨fn, tmps, assign, body, hy, hR⟩ := hY j x W0 wr A c hx hJ hB hrf hxc
        obtain ⟨k, hk⟩ : ∃ k, x.length = k := ⟨_, rfl⟩
        rw [hk] at hy hxc hx0 hx4
        rw [hk]
        replace hk := Lib.hid hk
        replace hR := Lib.hid hR
        by_cases h1 : 1 < k
        · have t1 : decide ((1 : Int) < (k : Int)) = true := by simp; omega
          gi_wp2
          refine ⟨fun h => absurd h (by decide), ?_⟩
          refine hR.out.mono ?_
          rintro e w2 ⟨rfl, hJ2, hr2⟩
          clear hR hy
          have HA := Lib.hid (above x hx32 A k c w2 hr2 hk.out hx4 (hT _ _ hJ2))
          gi_wp2
          refine ⟨trivial, fun h => absurd h (by decide), ?_⟩
          refine (callsIn_wide.2 HA.out).mono ?_
          rintro e w3 ⟨v3, rfl, hown3, hb3⟩
          obtain ⟨A3, c3, rfl, hc3, _⟩ := own_form hown3
          have hfr3 : RdF w2.heap.size w3 A3 (mUp x) := ⟨own_rd hown3, fun a ha => (World.ownsRow.lt hown3 a.block (by subst ha; rfl)).1⟩
          clear HA hown3
          gi_wp2
          obtain ⟨f', rfl, hf1, hf2⟩ := mLvF_more f x (by rw [hk.out]; exact h1) hxf
          have hul : (mUp x).length = (k + 1) / 2 := by rw [mUp_length, hk.out]
          have hd2 : lvs.drop (j + 1) = mLvF f' (mUp x) := by
            rw [← List.drop_drop, hdrop, hf1]; rfl
          refine ⟨⟨f', j + 1, mUp x, A3, c3, w2, by rw [hul], by rw [hul]; exact hc3, hd2, ?_, by rw [hul]; omega, by rw [hul]; omega, hf2, mUp_32 x, hJ2, hb3, hfr3⟩, ?_⟩
          · rcases Nat.lt_or_ge (j + 1) lvs.length with h | h
            · exact h
            · exfalso
              rw [List.drop_of_length_le h] at hd2
              cases f' with
              | zero => cases hd2
              | succ f' => rw [mLvF] at hd2; split at hd2 <;> cases hd2
          · simp only [sliceLen]; omega
        · have t1 : decide ((1 : Int) < (k : Int)) = false := by simp; omega
          gi_wp2
          refine ⟨fun h => absurd h (by decide), ?_⟩
          refine hR.out.mono ?_
          rintro e w2 ⟨rfl, hJ2, hr2⟩
          clear hR hy
          gi_wp2
          go_end0
          refine ⟨⟨_, rfl⟩, ?_⟩
          have hl2 : lvs.length = j + 1 := by
            have := congrArg List.length hdrop
            rw [mLvF_one f x (by rw [hk.out]; omega), List.length_drop] at this
            simp at this
            omega
          rw [hl2]
          exact hJ2

set_option maxHeartbeats 400000 in
/-- levels: a function value over a box of what came in -/
theorem levels (A : Option Addr) (n c : Nat) (w : World) :
    Calls Tryd.prog 25 #[.slice A n c] w fun e w' => e = .returned (.func (.func 30) #[] #[.pointer (some ⟨w.heap.size, 0, none⟩)]) ∧ w' = w.alloc (.cells #[.slice A n c] 22) := by
  go_enter Tryd.func25, Tryd.ntmps25
  go_wp2
  go_ret
  exact ⟨rfl, rfl⟩
end Go.Proofs.YtngindljhlbglaaDoor
