/- Iter; In; Eqh: put together for the claim. -/
import Derived.Test.YtdkknincamkhpaaDoorPr7
import Derived.Test.YtdkknincamkhpaaDoorPr3
import Derived.Stop.BytesEq
/- merkle.levels: the iterator's contract. -/
namespace Go.Proofs.YtdkknincamkhpaaDoor
open Go.RowKit Go.Shelf
attribute [local go_sem] Oper.semAt_some

/-- a level and all above it -/
def mLvF : Nat → List (List UInt8) → List (List (List UInt8))
  | 0, l => [l]
  | f + 1, l => if l.length ≤ 1 then [l] else l :: mLvF f (mUp l)
/-- all levels -/
def mLv (l : List (List UInt8)) : List (List (List UInt8)) := if l.length = 0 ∨ 4096 < l.length then [] else mLvF 12 l
theorem mLvF_one (f : Nat) (l : List (List UInt8)) (h : l.length ≤ 1) : mLvF f l = [l] := by
  cases f with
  | zero => rfl
  | succ f => rw [mLvF, if_pos h]
theorem mLvF_more (f : Nat) (l : List (List UInt8)) (h : 1 < l.length) (hf : l.length ≤ 2 ^ f) : ∃ f', f = f' + 1 ∧ mLvF f l = l :: mLvF f' (mUp l) ∧ (mUp l).length ≤ 2 ^ f' := by
  cases f with
  | zero => simp at hf; omega
  | succ f => exact ⟨f, rfl, by rw [mLvF, if_neg (by omega)], by rw [mUp_length]; rw [Nat.pow_succ] at hf; omega⟩

set_option maxRecDepth 10000 in
set_option maxHeartbeats 2000000 in
theorem levels1_in (n : Nat) (hn : 2 ≤ n) (l : List (List UInt8)) (h32 : All32 l) (A0 : Option Addr) (m c0 : Nat) (hm : l.length = m) (Bx : Nat) (w : World) (hcell : w.cell? ⟨Bx, 0, none⟩ = some (.slice A0 m c0)) (hr : Rd w A0 (hcl l)) (hBx : Bx < w.heap.size) :
    LvSeq n Tryd.prog 62 #[.pointer (some ⟨Bx, 0, none⟩)] (mLv l) w := by
  intro rec J W hW hT hY h0
  have hc := (hW.cell (p := ⟨Bx, 0, none⟩) hBx).trans hcell
  have hrW := hr.below hW
  have hn1 : 1 ≤ n - 1 := by omega
  clear hcell hr
  refine callsIn_of_wp Tryd.func62 rfl trivial ?_ rfl
  simp only [Tryd.ntmps62, List.size_toArray, List.length_cons, List.length_nil, Nat.reduceAdd, Nat.reduceSub, Array.replicate_succ, Array.replicate_zero, List.push_toArray, List.append_toArray, List.nil_append, List.cons_append]
  by_cases hz : m = 0
  · subst hz
    gi_wp2
    refine bodyPost_ret (results_none rfl _ _ _) rfl ⟨⟨_, rfl⟩, ?_⟩
    rw [mLv, if_pos (.inl hm)]
    exact h0
  · have z1 : ((m : Int) == 0) = false := by simp; omega
    by_cases hbig : 4096 < m
    · have z2 : decide ((4096 : Int) < (m : Int)) = true := by simp; omega
      gi_wp2
      refine bodyPost_ret (results_none rfl _ _ _) rfl ⟨⟨_, rfl⟩, ?_⟩
      rw [mLv, if_pos (.inr (by omega))]
      exact h0
    · have z2 : decide ((4096 : Int) < (m : Int)) = false := by simp; omega
      have hlv : mLv l = mLvF 12 l := by rw [mLv, if_neg (by omega)]
      generalize mLv l = lvs at *
      have HC := Lib.hid (CloneH l h32 A0 m c0 W hrW hm (by omega))
      replace hm := Lib.hid hm
      gi_wp2
      refine ⟨trivial, fun h => absurd h (by decide), ?_⟩
      refine (callsIn_wide.2 HC.out).mono ?_
      rintro e w1 ⟨v1, rfl, hown1, hb1⟩
      obtain ⟨A1, c1, rfl, hc1, _⟩ := own_form hown1
      have hfr1 : RdF W.heap.size w1 A1 l := ⟨own_rd hown1, fun a ha => (World.ownsRow.lt hown1 a.block (by subst ha; rfl)).1⟩
      clear HC hown1
      gi_wp2
      gi_loopw [3] (fun v wr => ∃ (f j : Nat) (x : List (List UInt8)) (A : Option Addr) (c : Nat) (W0 : World), v = .slice A x.length c ∧ x.length ≤ c ∧ lvs.drop j = mLvF f x ∧ j < lvs.length ∧ 0 < x.length ∧ x.length ≤ 4096 ∧ x.length ≤ 2 ^ f ∧ All32 x ∧ J j W0 ∧ Below W0.heap.size W0 wr ∧ RdF W0.heap.size wr A x) (fun v _ => sliceLen v)
      case atStart =>
        exact ⟨12, 0, l, A1, c1, W, by rw [hm.out], by rw [hm.out]; exact hc1, by rw [List.drop_zero, hlv], by rw [hlv, mLvF]; split <;> simp, by rw [hm.out]; omega, by rw [hm.out]; omega, by rw [hm.out]; omega, h32, h0, hb1, hfr1⟩
      case round =>
        obtain ⟨f, j, x, A, c, W0, rfl, hxc, hdrop, hj, hx0, hx4, hxf, hx32, hJ, hB, hrf⟩ := hrel
        have hx : lvs[j]? = some x := by
          have : (lvs.drop j)[0]? = some x := by
            rw [hdrop]
            cases f with
            | zero => rfl
            | succ f => rw [mLvF]; split <;> rfl
          simpa using this
        obtain ⟨fn, tmps, assign, body, hy, hR⟩ := hY j x W0 wr A c hx hJ hB hrf hxc
        obtain ⟨k, hk⟩ : ∃ k, x.length = k := ⟨_, rfl⟩
        rw [hk] at hy hxc hx0 hx4
        rw [hk]
        replace hk := Lib.hid hk
        replace hR := Lib.hid hR
        by_cases h1 : 1 < k
        · have t1 : decide ((1 : Int) < (k : Int)) = true := by simp; omega
          gi_wp2
          refine ⟨fun h => absurd h (by decide), ?_⟩
          refine hR.out.mono ?_
          rintro e w2 ⟨rfl, hJ2, hr2⟩
          clear hR hy
          have HA := Lib.hid (above x hx32 A k c w2 hr2 hk.out hx4 (hT _ _ hJ2))
          gi_wp2
          refine ⟨trivial, fun h => absurd h (by decide), ?_⟩
          refine (callsIn_wide.2 HA.out).mono ?_
          rintro e w3 ⟨v3, rfl, hown3, hb3⟩
          obtain ⟨A3, c3, rfl, hc3, _⟩ := own_form hown3
          have hfr3 : RdF w2.heap.size w3 A3 (mUp x) := ⟨own_rd hown3, fun a ha => (World.ownsRow.lt hown3 a.block (by subst ha; rfl)).1⟩
          clear HA hown3
          gi_wp2
          obtain ⟨f', rfl, hf1, hf2⟩ := mLvF_more f x (by rw [hk.out]; exact h1) hxf
          have hul : (mUp x).length = (k + 1) / 2 := by rw [mUp_length, hk.out]
          have hd2 : lvs.drop (j + 1) = mLvF f' (mUp x) := by
            rw [← List.drop_drop, hdrop, hf1]; rfl
          refine ⟨⟨f', j + 1, mUp x, A3, c3, w2, by rw [hul], by rw [hul]; exact hc3, hd2, ?_, by rw [hul]; omega, by rw [hul]; omega, hf2, mUp_32 x, hJ2, hb3, hfr3⟩, ?_⟩
          · rcases Nat.lt_or_ge (j + 1) lvs.length with h | h
            · exact h
            · exfalso
              rw [List.drop_of_length_le h] at hd2
              cases f' with
              | zero => cases hd2
              | succ f' => rw [mLvF] at hd2; split at hd2 <;> cases hd2
          · simp only [sliceLen]; omega
        · have t1 : decide ((1 : Int) < (k : Int)) = false := by simp; omega
          gi_wp2
          refine ⟨fun h => absurd h (by decide), ?_⟩
          refine hR.out.mono ?_
          rintro e w2 ⟨rfl, hJ2, hr2⟩
          clear hR hy
          gi_wp2
          go_end0
          refine ⟨⟨_, rfl⟩, ?_⟩
          have hl2 : lvs.length = j + 1 := by
            have := congrArg List.length hdrop
            rw [mLvF_one f x (by rw [hk.out]; omega), List.length_drop] at this
            simp at this
            omega
          rw [hl2]
          exact hJ2

set_option maxHeartbeats 400000 in
/-- levels: a function value over a box of what came in -/
theorem levels (A : Option Addr) (n c : Nat) (w : World) :
    Calls Tryd.prog 44 #[.slice A n c] w fun e w' => e = .returned (.func (.func 62) #[] #[.pointer (some ⟨w.heap.size, 0, none⟩)]) ∧ w' = w.alloc (.cells #[.slice A n c] 23) := by
  go_enter Tryd.func44, Tryd.ntmps44
  go_wp2
  go_ret
  exact ⟨rfl, rfl⟩
end Go.Proofs.YtdkknincamkhpaaDoor
/- A round's body under the plain words of the walk: regions of a loop's body inside the wide fence, in a round's frame, out of what the plain walk shows. -/
namespace Go.Proofs.YtdkknincamkhpaaDoor
open Go.RowKit

/-- normal ends alone -/
def nrm (K : Act → World → Prop) : Exit → Act → World → Prop
  | .normal, a, w => K a w
  | _, _, _ => False
theorem nrm_out (K : Act → World → Prop) : ¬ LetsOut (nrm K) := fun ⟨_, _, h⟩ => h
def noDefer (ops : List Oper) : Bool := ops.all fun o => match o.op with | .defer _ => false | _ => true
theorem noDefer_spec {ops : List Oper} (h : noDefer ops = true) {o : Oper} (ho : o ∈ ops) : ∀ c, o.op ≠ .defer c := fun c e => by
  have := List.all_eq_true.1 h o ho
  rw [e] at this
  cases this

section
variable {P : Program} {n : Nat} {Q : Exit → Act → World → Prop}
theorem rowsIn_round {row : String} {args : Array Value} {w : World} {R : Value → World → Prop} (r : Nat) (h : Rows P row args w R) : RowsIn (Fence.wide.inRound r) n P row args w R :=
  fun c cs _ => let ⟨v, w', q, s⟩ := h c cs; ⟨v, w', q, stepsIn_wide.2 s⟩
theorem oper_wpIn_of_wp (r : Nat) {o : Oper} (hd : ∀ c, o.op ≠ .defer c) {a : Act} {w : World} {K0 K K' : Act → World → Prop} (h : o.wp P a w K (nrm K0)) (hK : ∀ a w, K a w → K' a w) : o.wpIn (Fence.wide.inRound r) n P a w K' Q := by
  refine ⟨fun _ _ => trivial, ?_⟩
  rw [Oper.semAt_eq _ _ _ hd]
  unfold Oper.wp at h
  generalize (execOp a.eval o).run P w = res at h ⊢
  cases res with
  | ok x w' =>
    cases x with
    | value v => exact hK _ _ h
    | skip => exact hK _ _ h
    | defer d => exact hK _ _ h
    | enter f args =>
      refine ⟨fun hh => (by cases hh), ?_⟩
      refine (CallsIn.inRound r (callsIn_wide.2 h)).mono fun e w'' he => ?_
      cases e with
      | returned v => exact hK _ _ he
      | panicked c => exact False.elim he
      | outgrown => exact absurd he (nrm_out _)
    | row row args => exact ⟨fun hh => (by cases hh), (rowsIn_round r h).mono fun _ _ he => hK _ _ he⟩
    | _ => exact False.elim h
  | halt x w' =>
    cases x <;> exact False.elim h

theorem wpListIn_of_wpList (r : Nat) {ops : Array Oper} : ∀ (l : List Oper) (a : Act) (w : World), noDefer l = true → wpList P ops (nrm (fun a w => Q .normal a w)) l a w → wpListIn (Fence.wide.inRound r) n P ops Q l a w
  | [], _, _, _, h => h
  | o :: rest, a, w, hd, h => by
    have hd' : noDefer rest = true := by
      unfold noDefer at hd ⊢
      rw [List.all_cons, Bool.and_eq_true] at hd
      exact hd.2
    unfold wpList at h
    unfold wpListIn
    split
    · rename_i hw
      rw [if_pos hw] at h
      rcases h with h | h
      · exact oper_wpIn_of_wp r (noDefer_spec hd (List.mem_cons_self ..)) h fun a w h => wpListIn_of_wpList r rest a w hd' h
      · exact absurd h.2 (nrm_out _)
    · rename_i hw
      rw [if_neg hw] at h
      exact ⟨fun _ _ => trivial, wpListIn_of_wpList r rest _ _ hd' h⟩
theorem wpAnyIn_of_wpAny (r : Nat) {md : Region.Mode} {ops : Array Oper} (hd : noDefer ops.toList = true) : ∀ (fuel : Nat) (listed : Array Bool) (a : Act) (w : World), wpAny P md ops (nrm (fun a w => Q .normal a w)) fuel listed a w → wpAnyIn (Fence.wide.inRound r) n P md ops Q fuel listed a w
  | 0, _, _, _, h => h
  | fuel + 1, listed, a, w, h => by
    refine ⟨h.1, fun i hi => ?_⟩
    have h2 := h.2 i hi
    unfold wpOp at h2
    unfold wpOpIn
    cases ho : ops[i]? with
    | none =>
      rw [ho] at h2
      exact wpAnyIn_of_wpAny r hd fuel _ _ _ h2
    | some o =>
      rw [ho] at h2
      dsimp only at h2 ⊢
      have hmem : o ∈ ops.toList := Array.mem_toList_iff.2 (Array.mem_of_getElem? ho)
      split
      · rename_i hw
        rw [if_pos hw] at h2
        rcases h2 with h2 | h2
        · exact oper_wpIn_of_wp r (noDefer_spec hd hmem) h2 fun a w h => wpAnyIn_of_wpAny r hd fuel _ _ _ h
        · exact absurd h2.2 (nrm_out _)
      · rename_i hw
        rw [if_neg hw] at h2
        exact ⟨fun _ _ => trivial, wpAnyIn_of_wpAny r hd fuel _ _ _ h2⟩

/-- a region that draws its order and ends in a forced tail, in a round -/
theorem wpIn_region_relT {r id : Nat} {a : Act} {w : World} {l : List Oper} (k : Nat) (L : List (Nat × VP)) (R : World → World → Prop) (hd : noDefer l = true) (hm : P.follows .mixedOrders = true) (hT : tailB l.toArray k = true) (hB : relB l.toArray (L.map (·.1)) = true)
    (hkn : L.all (fun p => decide (p.1 < k)) = true)
    (hrange : l.all (fun o => match o.dst with | some d => decide (d < a.tmps.size) | none => true) = true)
    (hrefl : ∀ w, R w w) (htr : ∀ a b d, R a b → R b d → R a d) (hmono : ∀ p ∈ L, ∀ v w w', R w w' → p.2 v w → p.2 v w')
    (h : relWalk P l.toArray R (fun _ a' w' => wpList P l.toArray (nrm (fun a w => Q .normal a w)) (l.drop k) a' w') w.drew L 0 (l.take k) a) : (Code.region id l.toArray true).wpIn (Fence.wide.inRound r) n P Q a w :=
  wpIn_region_any hm (wpAnyIn_of_wpAny r hd _ _ _ _ (relT_wpAny k L R hT hB hkn hrange hrefl htr hmono h))
end
end Go.Proofs.YtdkknincamkhpaaDoor
/- Hashes and strings compared. -/
namespace Go.Proofs.YtdkknincamkhpaaDoor
open Go.RowKit
theorem sizeOf_u8 (w : World) : (sizeOf 5).run Tryd.prog w = .ok 1 w := by
  obtain ⟨i0, hi, hz⟩ := Option.map_eq_some_iff.1 size_u8
  simp [sizeOf, typeInfo, hi, hz]
theorem neqP (x y : List UInt8) (hx : x.length = 32) (hy : y.length = 32) (w : World) : (binOp .neq 28 (.agg (x.map bv).toArray) (.agg (y.map bv).toArray)).run Tryd.prog w = .ok (.bool (!(x == y))) w := by
  have h := run_equalIn_bytes w 9998 28 5 32 Tryd.underlying28 Tryd.underlying5 sizeOf_u8 x y hx hy
  rw [run_neq_struct]
  exact (congrArg (fun r : Result Bool => r.andThen fun b w' => .ok (Value.bool (!b)) w') h)
end Go.Proofs.YtdkknincamkhpaaDoor
