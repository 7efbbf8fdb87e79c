import Derived.RangeFuncNested
import Derived.RangeFuncBound
import Derived.RangeFuncCalls
import Derived.RangeFuncLeaves
import Derived.Shelf.Abstract
import Derived.Shelf.RegionOpen
import Derived.WalkKit
import Derived.OwnWalkIn
import Derived.TacticsInMore
import Derived.LoopNIn
import Derived.LoopIn
import Derived.Test.YtobjgebojhjhnaaDoorQr9
import Derived.Test.YtobjgebojhjhnaaDoorQr2
namespace Go.Proofs.YtobjgebojhjhnaaDoor
open Go.RowKit
def RdF (base : Nat) (W : World) (A : Option Addr) (x : List (List UInt8)) : Prop := Rd W A (hcl x) ∧ ∀ a, A = some a → base ≤ a.block
theorem Rd.grown {W W' : World} {A : Option Addr} {xs : List Value} {row : Option Nat} (h : Rd W A xs) (hg : W.grownBy W' row) (hrow : ∀ r, row = some r → ∃ o : Obj, W.heap[r]? = some o ∧ o.isCells = false) : Rd W' A xs :=
 h.keep fun _ _ _ hv => cell_kept hv hg hrow
theorem Below.grownNone {w w' : World} (h : Below w.heap.size w w') : w.grownBy w' none := ⟨h.os, h.tape, h.output, h.size, fun k hk _ => h.block k hk⟩
def LvSeq (n : Nat) (P : Program) (g : Nat) (lb : Array Value) (lvs : List (List (List UInt8))) (w : World) : Prop :=
 ∀ (l : Nat) (J : Nat → World → Prop) (W : World), Below w.heap.size w W → (∀ j W, J j W → Tabs W) →
  (∀ j x W0 W1 A c, lvs[j]? = some x → J j W0 → Below W0.heap.size W0 W1 → RdF W0.heap.size W1 A x → x.length ≤ c → YieldAt Fence.wide (n - 1) P l #[.slice A x.length c] W1 fun e W' =>
   e = .returned (.bool true) ∧ J (j + 1) W' ∧ Rd W' A (hcl x)) →
  J 0 W →
  CallsIn Fence.wide n P g (#[.func (.yield l) #[] #[]] ++ lb) W fun e W' => (∃ v, e = .returned v) ∧ J lvs.length W'
def lvPost (B : Nat) (A : Option Addr) (x : List (List UInt8)) (R : World → Prop) (W : World) : Exit → Act → World → Prop
 | .normal, _, W' => KeepsFrom B W W' ∧ Rd W' A (hcl x) ∧ R W'
 | _, _, _ => False
theorem wpIn_rangeFunc_lv {P : Program} {n : Nat} {g : Operand} {ps : Array Tmp} {assign body : Code} {Q : Exit → Act → World → Prop} {a : Act} {w : World}
  (h1 : 1 ≤ n) {gf : Nat} {lb : Array Value} (hg : a.eval g = .func (.func gf) #[] lb) (eg : ∀ args w, (callFunc gf args).run P w = .ok (.enter gf args) w)
  {lvs : List (List (List UInt8))} (hseq : LvSeq (n - 1) P gf lb lvs w) (hps : ps.size = 1)
  (I : Nat → Nat → World → Prop) (hI : ∀ j b W W' row, I j b W → W.grownBy W' row → (∀ r, row = some r → w.heap.size ≤ r ∧ ∃ o : Obj, W.heap[r]? = some o ∧ o.isCells = false) → I j b W')
  (hT : ∀ j b W, I j b W → Tabs W) (h0 : ∀ b, w.heap.size ≤ b → I 0 b w) (a₁ : Value → Act)
  (hassign : ∀ (l : Nat) (v : Value) (W : World) (K : Act → World → Prop), K (a₁ v) W →
   assign.wpIn (Fence.wide.inRound l) (n - 1 - 1) P (Exit.then K (fun _ _ _ => False)) { tmps := (ps.zip #[v]).foldl (fun t (p, v) => t.setIfInBounds p v) a.tmps, defers := [] } W)
  (hbody : ∀ (l j : Nat) (x : List (List UInt8)) (b : Nat) (W : World) (A : Option Addr) (c : Nat), lvs[j]? = some x → I j b W → RdF b W A x → x.length ≤ c → b ≤ W.heap.size →
   body.wpIn (Fence.wide.inRound l) (n - 1 - 1) P (lvPost w.heap.size A x (fun W' => I (j + 1) W'.heap.size W') W) (a₁ (.slice A x.length c)) W)
  (hdone : ∀ (D : Nat) (W : World), w.heap.size ≤ D → I lvs.length W.heap.size W → W.heap[D]? = some (.deferred (some [])) → Q .normal { a with defers := { target := .collected D, args := #[] } :: a.defers } W) :
  (Code.rangeFunc g ps assign body).wpIn Fence.wide n P Q a w := by
 refine wpIn_rangeFunc ?_
 intro fn hfn
 show ∃ l, _
 obtain ⟨rec, hrec⟩ : ∃ rec : LoopState → Option Code → Loop, rec = fun st pe => { state := st, pending := pe, fn, tmps := a.tmps, params := ps, assign, body, defers := w.heap.size } := ⟨_, rfl⟩
 obtain ⟨W1, hW1⟩ : ∃ W1, (w.alloc (.deferred (some []))).alloc (.loop (rec .ready none)) = W1 := ⟨_, rfl⟩
 have hL1 : W1.heap[w.heap.size + 1]? = some (.loop (rec .ready none)) := by
  rw [← hW1]; have := World.alloc_heap_new (w.alloc (.deferred (some []))) (.loop (rec .ready none)); rwa [World.size_alloc] at this
 have hK1 : W1.heap[w.heap.size]? = some (.deferred (some [])) := by
  rw [← hW1]; exact (Below.heap_alloc _ _ _ (by simp)).trans (World.alloc_heap_new w _)
 have hb1 : Below w.heap.size w W1 := by
  rw [← hW1]; exact ((Below.refl _ w).alloc (Nat.le_refl _) _).alloc (by simp) _
 have hI1 : I 0 W1.heap.size W1 := hI _ _ _ _ none (h0 _ hb1.size) (Below.grownNone hb1) (fun r e => by cases e)
 refine ⟨w.heap.size + 1, [{ target := .collected w.heap.size, args := #[] }], W1, { target := .fn (.func gf) lb, args := #[.func (.yield (w.heap.size + 1)) #[] #[]] }, W1, gf,
  #[.func (.yield (w.heap.size + 1)) #[] #[]] ++ lb, W1, ?_, ?_, ?_, ?_, fun _ => h1, ?_⟩
 ·rw [← hW1, hrec]; exact run_enterLoop_outer _ _ _ _ _
 ·simp only [resolve, hg]
  simp [go_sem]
 ·intro f' _; trivial
 ·simp [invoke, go_sem, eg]
 ·refine (hseq (w.heap.size + 1)
   (fun j W => I j W.heap.size W ∧ W.heap[w.heap.size + 1]? = some (.loop (rec .ready none)) ∧ W.heap[w.heap.size]? = some (.deferred (some [])))
   W1 hb1 (fun j W h => hT _ _ _ h.1) ?_ ⟨hI1, hL1, hK1⟩).mono ?_
  ·rintro j x W0 W A c hx ⟨hi0, hl0, hk0⟩ hB hrf hc
   have hi : I j W0.heap.size W := hI _ _ _ _ none hi0 (Below.grownNone hB) (fun r e => by cases e)
   have hl : W.heap[w.heap.size + 1]? = some (.loop (rec .ready none)) := (hB.block _ (Array.getElem?_eq_some_iff.1 hl0).1).trans hl0
   have hk : W.heap[w.heap.size]? = some (.deferred (some [])) := (hB.block _ (Array.getElem?_eq_some_iff.1 hk0).1).trans hk0
   have hlt : w.heap.size + 1 < W.heap.size := (Array.getElem?_eq_some_iff.1 hl).1
   have hy := run_yield (P := P) (args := #[Value.slice A x.length c]) hl (by rw [hrec]; simp [hps])
   rw [hrec] at hy
   refine ⟨fn, _, assign, body, hy, roundIn_of_wpIn hfn (hassign _ _ W _ ⟨_, run_beginRound hl (by rw [hrec]), ?_⟩)⟩
   have hl2 : (W.putObj (w.heap.size + 1) (.loop { rec .ready none with state := .busy })).heap[w.heap.size + 1]? = some (.loop { rec .ready none with state := .busy }) := World.putObj_heap_same hlt
   have hk2 : (W.putObj (w.heap.size + 1) (.loop { rec .ready none with state := .busy })).heap[w.heap.size]? = some (.deferred (some [])) := (World.putObj_heap_other (by omega)).trans hk
   have hg2 := grownBy_putObj' W (w.heap.size + 1) (.loop { rec .ready none with state := .busy })
   have hr2 : Rd (W.putObj (w.heap.size + 1) (.loop { rec .ready none with state := .busy })) A (hcl x) := hrf.1.grown hg2 (fun r e => by cases e; exact ⟨_, hl, rfl⟩)
   have hi2 := hI _ _ _ _ _ hi hg2 (fun r e => by cases e; exact ⟨by omega, _, hl, rfl⟩)
   refine wpIn_mono (hbody _ j x W0.heap.size _ A c hx hi2 ⟨hr2, hrf.2⟩ hc (Nat.le_trans hB.size hg2.size)) ?_
   rintro e a3 W3 hp
   cases e with
   | normal =>
    obtain ⟨hk3, hr3, hi3⟩ := hp
    have hl3 := hk3.same _ _ (by omega) hl2 rfl
    have hd3 := hk3.same _ _ (Nat.le_refl _) hk2 rfl
    have hend := run_endRound (P := P) none hl3
    have hg3 := grownBy_putObj' W3 (w.heap.size + 1) (.loop (rec .ready none))
    rw [hrec] at hend hl3
    refine ⟨_, _, hend, rfl, ⟨?_, ?_, ?_⟩, ?_⟩
    ·have := hI _ _ _ _ _ hi3 hg3 (fun r e => by cases e; exact ⟨by omega, _, hl3, rfl⟩)
     rw [hrec] at this
     simpa using this
    ·rw [hrec]; exact World.putObj_heap_same (Array.getElem?_eq_some_iff.1 hl3).1
    ·exact (World.putObj_heap_other (by omega)).trans hd3
    ·have := hr3.grown hg3 (fun r e => by cases e; exact ⟨_, hl3, rfl⟩)
     rw [hrec] at this
     exact this
   | _ => exact hp.elim
  ·rintro e W2 ⟨⟨v, rfl⟩, hi, hl, hk⟩
   have hend := run_endLoop (P := P) hl (by rw [hrec]; simp)
   have hi3 := hI _ _ _ _ _ hi (grownBy_putObj' W2 (w.heap.size + 1) (.loop { rec .ready none with state := .exhausted })) (fun r e => by cases e; exact ⟨by omega, _, hl, rfl⟩)
   have hk3 := (World.putObj_heap_other (w := W2) (r := w.heap.size + 1) (k := w.heap.size) (o := .loop { rec .ready none with state := .exhausted }) (by omega)).trans hk
   rw [hrec] at hend hi3 hk3
   exact ⟨none, _, hend, hdone _ _ (Nat.le_refl _) (by simpa using hi3) hk3⟩
end Go.Proofs.YtobjgebojhjhnaaDoor
namespace Go.Proofs.YtobjgebojhjhnaaDoor
open Go.RowKit Go.Shelf
attribute [local go_sem] Oper.semAt_some
def mLvF : Nat → List (List UInt8) → List (List (List UInt8))
 | 0, l => [l]
 | f + 1, l => if l.length ≤ 1 then [l] else l :: mLvF f (mUp l)
def mLv (l : List (List UInt8)) : List (List (List UInt8)) := if l.length = 0 ∨ 4096 < l.length then [] else mLvF 12 l
theorem mLvF_one (f : Nat) (l : List (List UInt8)) (h : l.length ≤ 1) : mLvF f l = [l] := by
 cases f with
 | zero => rfl
 | succ f => rw [mLvF, if_pos h]
theorem mLvF_more (f : Nat) (l : List (List UInt8)) (h : 1 < l.length) (hf : l.length ≤ 2 ^ f) : ∃ f', f = f' + 1 ∧ mLvF f l = l :: mLvF f' (mUp l) ∧ (mUp l).length ≤ 2 ^ f' := by
 cases f with
 | zero => simp at hf; omega
 | succ f => exact ⟨f, rfl, by rw [mLvF, if_neg (by omega)], by rw [mUp_length]; rw [Nat.pow_succ] at hf; omega⟩
set_option maxRecDepth 10000 in
set_option maxHeartbeats 2000000 in
theorem levels1_in (n : Nat) (hn : 2 ≤ n) (l : List (List UInt8)) (h32 : All32 l) (A0 : Option Addr) (m c0 : Nat) (hm : l.length = m) (Bx : Nat) (w : World) (hcell : w.cell? ⟨Bx, 0, none⟩ = some (.slice A0 m c0)) (hr : Rd w A0 (hcl l)) (hBx : Bx < w.heap.size) :
  LvSeq n Tryd.prog 77 #[.pointer (some ⟨Bx, 0, none⟩)] (mLv l) w := by
 intro rec J W hW hT hY h0
 have hc := (hW.cell (p := ⟨Bx, 0, none⟩) hBx).trans hcell
 have hrW := hr.below hW
 have hn1 : 1 ≤ n - 1 := by omega
 clear hcell hr
 refine callsIn_of_wp Tryd.func77 rfl trivial ?_ rfl
 simp only [Tryd.ntmps77, List.size_toArray, List.length_cons, List.length_nil, Nat.reduceAdd, Nat.reduceSub, Array.replicate_succ, Array.replicate_zero, List.push_toArray, List.append_toArray, List.nil_append, List.cons_append]
 by_cases hz : m = 0
 ·subst hz
  gi_wp2
  refine bodyPost_ret (results_none rfl _ _ _) rfl ⟨⟨_, rfl⟩, ?_⟩
  rw [mLv, if_pos (.inl hm)]
  exact h0
 ·have z1 : ((m : Int) == 0) = false := by simp; omega
  by_cases hbig : 4096 < m
  ·have z2 : decide ((4096 : Int) < (m : Int)) = true := by simp; omega
   gi_wp2
   refine bodyPost_ret (results_none rfl _ _ _) rfl ⟨⟨_, rfl⟩, ?_⟩
   rw [mLv, if_pos (.inr (by omega))]
   exact h0
  ·have z2 : decide ((4096 : Int) < (m : Int)) = false := by simp; omega
   have hlv : mLv l = mLvF 12 l := by rw [mLv, if_neg (by omega)]
   generalize mLv l = lvs at *
   have HC := Lib.hid (CloneH l h32 A0 m c0 W hrW hm (by omega))
   replace hm := Lib.hid hm
   gi_wp2
   refine ⟨trivial, fun h => absurd h (by decide), ?_⟩
   refine (callsIn_wide.2 HC.out).mono ?_
   rintro e w1 ⟨v1, rfl, hown1, hb1⟩
   obtain ⟨A1, c1, rfl, hc1, _⟩ := own_form hown1
   have hfr1 : RdF W.heap.size w1 A1 l := ⟨own_rd hown1, fun a ha => (World.ownsRow.lt hown1 a.block (by subst ha; rfl)).1⟩
   clear HC hown1
   gi_wp2
   gi_loopw [3] (fun v wr => ∃ (f j : Nat) (x : List (List UInt8)) (A : Option Addr) (c : Nat) (W0 : World), v = .slice A x.length c ∧ x.length ≤ c ∧ lvs.drop j = mLvF f x ∧ j < lvs.length ∧ 0 < x.length ∧ x.length ≤ 4096 ∧ x.length ≤ 2 ^ f ∧ All32 x ∧ J j W0 ∧ Below W0.heap.size W0 wr ∧ RdF W0.heap.size wr A x) (fun v _ => sliceLen v)
   case atStart =>
    exact ⟨12, 0, l, A1, c1, W, by rw [hm.out], by rw [hm.out]; exact hc1, by rw [List.drop_zero, hlv], by rw [hlv, mLvF]; split <;> simp, by rw [hm.out]; omega, by rw [hm.out]; omega, by rw [hm.out]; omega, h32, h0, hb1, hfr1⟩
   case round =>
    obtain ⟨f, j, x, A, c, W0, rfl, hxc, hdrop, hj, hx0, hx4, hxf, hx32, hJ, hB, hrf⟩ := hrel
    have hx : lvs[j]? = some x := by
     have : (lvs.drop j)[0]? = some x := by
      rw [hdrop]
      cases f with
      | zero => rfl
      | succ f => rw [mLvF]; split <;> rfl
     simpa using this
    obtain ⟨fn, tmps, assign, body, hy, hR⟩ := hY j x W0 wr A c hx hJ hB hrf hxc
    obtain ⟨k, hk⟩ : ∃ k, x.length = k := ⟨_, rfl⟩
    rw [hk] at hy hxc hx0 hx4
    rw [hk]
    replace hk := Lib.hid hk
    replace hR := Lib.hid hR
    by_cases h1 : 1 < k
    ·have t1 : decide ((1 : Int) < (k : Int)) = true := by simp; omega
     gi_wp2
     refine ⟨fun h => absurd h (by decide), ?_⟩
     refine hR.out.mono ?_
     rintro e w2 ⟨rfl, hJ2, hr2⟩
     clear hR hy
     have HA := Lib.hid (above x hx32 A k c w2 hr2 hk.out hx4 (hT _ _ hJ2))
     gi_wp2
     refine ⟨trivial, fun h => absurd h (by decide), ?_⟩
     refine (callsIn_wide.2 HA.out).mono ?_
     rintro e w3 ⟨v3, rfl, hown3, hb3⟩
     obtain ⟨A3, c3, rfl, hc3, _⟩ := own_form hown3
     have hfr3 : RdF w2.heap.size w3 A3 (mUp x) := ⟨own_rd hown3, fun a ha => (World.ownsRow.lt hown3 a.block (by subst ha; rfl)).1⟩
     clear HA hown3
     gi_wp2
     obtain ⟨f', rfl, hf1, hf2⟩ := mLvF_more f x (by rw [hk.out]; exact h1) hxf
     have hul : (mUp x).length = (k + 1) / 2 := by rw [mUp_length, hk.out]
     have hd2 : lvs.drop (j + 1) = mLvF f' (mUp x) := by
      rw [← List.drop_drop, hdrop, hf1]; rfl
     refine ⟨⟨f', j + 1, mUp x, A3, c3, w2, by rw [hul], by rw [hul]; exact hc3, hd2, ?_, by rw [hul]; omega, by rw [hul]; omega, hf2, mUp_32 x, hJ2, hb3, hfr3⟩, ?_⟩
     ·rcases Nat.lt_or_ge (j + 1) lvs.length with h | h
      ·exact h
      ·exfalso
       rw [List.drop_of_length_le h] at hd2
       cases f' with
       | zero => cases hd2
       | succ f' => rw [mLvF] at hd2; split at hd2 <;> cases hd2
     ·simp only [sliceLen]; omega
    ·have t1 : decide ((1 : Int) < (k : Int)) = false := by simp; omega
     gi_wp2
     refine ⟨fun h => absurd h (by decide), ?_⟩
     refine hR.out.mono ?_
     rintro e w2 ⟨rfl, hJ2, hr2⟩
     clear hR hy
     gi_wp2
     go_end0
     refine ⟨⟨_, rfl⟩, ?_⟩
     have hl2 : lvs.length = j + 1 := by
      have := congrArg List.length hdrop
      rw [mLvF_one f x (by rw [hk.out]; omega), List.length_drop] at this
      simp at this
      omega
     rw [hl2]
     exact hJ2
set_option maxHeartbeats 400000 in
theorem levels (A : Option Addr) (n c : Nat) (w : World) :
  Calls Tryd.prog 53 #[.slice A n c] w fun e w' => e = .returned (.func (.func 77) #[] #[.pointer (some ⟨w.heap.size, 0, none⟩)]) ∧ w' = w.alloc (.cells #[.slice A n c] 23) := by
 go_enter Tryd.func53, Tryd.ntmps53
 go_wp2
 go_ret
 exact ⟨rfl, rfl⟩
end Go.Proofs.YtobjgebojhjhnaaDoor
namespace Go.Proofs.YtobjgebojhjhnaaDoor
open Go.RowKit
def nrm (K : Act → World → Prop) : Exit → Act → World → Prop
 | .normal, a, w => K a w
 | _, _, _ => False
theorem nrm_out (K : Act → World → Prop) : ¬ LetsOut (nrm K) := fun ⟨_, _, h⟩ => h
def noDefer (ops : List Oper) : Bool := ops.all fun o => match o.op with | .defer _ => false | _ => true
theorem noDefer_spec {ops : List Oper} (h : noDefer ops = true) {o : Oper} (ho : o ∈ ops) : ∀ c, o.op ≠ .defer c := fun c e => by
 have := List.all_eq_true.1 h o ho
 rw [e] at this
 cases this
section
variable {P : Program} {n : Nat} {Q : Exit → Act → World → Prop}
theorem rowsIn_round {row : String} {args : Array Value} {w : World} {R : Value → World → Prop} (r : Nat) (h : Rows P row args w R) : RowsIn (Fence.wide.inRound r) n P row args w R :=
 fun c cs _ => let ⟨v, w', q, s⟩ := h c cs; ⟨v, w', q, stepsIn_wide.2 s⟩
theorem oper_wpIn_of_wp (r : Nat) {o : Oper} (hd : ∀ c, o.op ≠ .defer c) {a : Act} {w : World} {K0 K K' : Act → World → Prop} (h : o.wp P a w K (nrm K0)) (hK : ∀ a w, K a w → K' a w) : o.wpIn (Fence.wide.inRound r) n P a w K' Q := by
 refine ⟨fun _ _ => trivial, ?_⟩
 rw [Oper.semAt_eq _ _ _ hd]
 unfold Oper.wp at h
 generalize (execOp a.eval o).run P w = res at h ⊢
 cases res with
 | ok x w' =>
  cases x with
  | value v => exact hK _ _ h
  | skip => exact hK _ _ h
  | defer d => exact hK _ _ h
  | enter f args =>
   refine ⟨fun hh => (by cases hh), ?_⟩
   refine (CallsIn.inRound r (callsIn_wide.2 h)).mono fun e w'' he => ?_
   cases e with
   | returned v => exact hK _ _ he
   | panicked c => exact False.elim he
   | outgrown => exact absurd he (nrm_out _)
  | row row args => exact ⟨fun hh => (by cases hh), (rowsIn_round r h).mono fun _ _ he => hK _ _ he⟩
  | _ => exact False.elim h
 | halt x w' =>
  cases x <;> exact False.elim h
theorem wpListIn_of_wpList (r : Nat) {ops : Array Oper} : ∀ (l : List Oper) (a : Act) (w : World), noDefer l = true → wpList P ops (nrm (fun a w => Q .normal a w)) l a w → wpListIn (Fence.wide.inRound r) n P ops Q l a w
 | [], _, _, _, h => h
 | o :: rest, a, w, hd, h => by
  have hd' : noDefer rest = true := by
   unfold noDefer at hd ⊢
   rw [List.all_cons, Bool.and_eq_true] at hd
   exact hd.2
  unfold wpList at h
  unfold wpListIn
  split
  ·rename_i hw
   rw [if_pos hw] at h
   rcases h with h | h
   ·exact oper_wpIn_of_wp r (noDefer_spec hd (List.mem_cons_self ..)) h fun a w h => wpListIn_of_wpList r rest a w hd' h
   ·exact absurd h.2 (nrm_out _)
  ·rename_i hw
   rw [if_neg hw] at h
   exact ⟨fun _ _ => trivial, wpListIn_of_wpList r rest _ _ hd' h⟩
theorem wpAnyIn_of_wpAny (r : Nat) {md : Region.Mode} {ops : Array Oper} (hd : noDefer ops.toList = true) : ∀ (fuel : Nat) (listed : Array Bool) (a : Act) (w : World), wpAny P md ops (nrm (fun a w => Q .normal a w)) fuel listed a w → wpAnyIn (Fence.wide.inRound r) n P md ops Q fuel listed a w
 | 0, _, _, _, h => h
 | fuel + 1, listed, a, w, h => by
  refine ⟨h.1, fun i hi => ?_⟩
  have h2 := h.2 i hi
  unfold wpOp at h2
  unfold wpOpIn
  cases ho : ops[i]? with
  | none =>
   rw [ho] at h2
   exact wpAnyIn_of_wpAny r hd fuel _ _ _ h2
  | some o =>
   rw [ho] at h2
   dsimp only at h2 ⊢
   have hmem : o ∈ ops.toList := Array.mem_toList_iff.2 (Array.mem_of_getElem? ho)
   split
   ·rename_i hw
    rw [if_pos hw] at h2
    rcases h2 with h2 | h2
    ·exact oper_wpIn_of_wp r (noDefer_spec hd hmem) h2 fun a w h => wpAnyIn_of_wpAny r hd fuel _ _ _ h
    ·exact absurd h2.2 (nrm_out _)
   ·rename_i hw
    rw [if_neg hw] at h2
    exact ⟨fun _ _ => trivial, wpAnyIn_of_wpAny r hd fuel _ _ _ h2⟩
theorem wpIn_region_relT {r id : Nat} {a : Act} {w : World} {l : List Oper} (k : Nat) (L : List (Nat × VP)) (R : World → World → Prop) (hd : noDefer l = true) (hm : P.follows .mixedOrders = true) (hT : tailB l.toArray k = true) (hB : relB l.toArray (L.map (·.1)) = true)
  (hkn : L.all (fun p => decide (p.1 < k)) = true)
  (hrange : l.all (fun o => match o.dst with | some d => decide (d < a.tmps.size) | none => true) = true)
  (hrefl : ∀ w, R w w) (htr : ∀ a b d, R a b → R b d → R a d) (hmono : ∀ p ∈ L, ∀ v w w', R w w' → p.2 v w → p.2 v w')
  (h : relWalk P l.toArray R (fun _ a' w' => wpList P l.toArray (nrm (fun a w => Q .normal a w)) (l.drop k) a' w') w.drew L 0 (l.take k) a) : (Code.region id l.toArray true).wpIn (Fence.wide.inRound r) n P Q a w :=
 wpIn_region_any hm (wpAnyIn_of_wpAny r hd _ _ _ _ (relT_wpAny k L R hT hB hkn hrange hrefl htr hmono h))
end
end Go.Proofs.YtobjgebojhjhnaaDoor
namespace Go.Proofs.YtobjgebojhjhnaaDoor
open Go.RowKit Go.Shelf
attribute [local go_sem] Oper.semAt_some
theorem eqlH (x y : List UInt8) (hx : x.length = 32) (hy : y.length = 32) (w : World) : (binOp .eql 30 (.agg (hcs x)) (.agg (hcs y))).run Tryd.prog w = .ok (.bool (x == y)) w :=
 run_eql_bytes w 30 5 32 Tryd.underlying30 Tryd.underlying5 sizeOf_u8 x y hx hy
def mAlike1 : List (List UInt8) → Bool
 | x :: y :: r => (x == y) || mAlike1 r
 | _ => false
def mAlike (ls : List (List (List UInt8))) : Bool := ls.any mAlike1
def mRootOf (ls : List (List (List UInt8))) : List UInt8 := (ls.getLast?.map fun x => x.getD 0 []).getD (List.replicate 32 0)
theorem mAlike1_snoc : ∀ (x : List (List UInt8)) (k : Nat), 2 * k + 1 < x.length → mAlike1 (x.take (2 * (k + 1))) = (mAlike1 (x.take (2 * k)) || (x.getD (2 * k) [] == x.getD (2 * k + 1) []))
 | [], k, h => by simp at h
 | [_], k, h => by simp at h
 | a :: b :: r, 0, _ => by simp [mAlike1]
 | a :: b :: r, k + 1, h => by
  rw [show 2 * (k + 1 + 1) = 2 * (k + 1) + 1 + 1 by omega, show 2 * (k + 1) + 1 = 2 * k + 1 + 1 + 1 by omega, show 2 * (k + 1) = 2 * k + 1 + 1 by omega]
  simp only [List.take_succ_cons, mAlike1, List.getD_cons_succ, Bool.or_assoc]
  rw [show 2 * k + 1 + 1 = 2 * (k + 1) by omega, mAlike1_snoc r k (by simp at h; omega)]
theorem mAlike1_short : ∀ (x : List (List UInt8)) (k : Nat), x.length ≤ 2 * k + 1 → mAlike1 (x.take (2 * k)) = mAlike1 x
 | [], k, _ => by simp
 | [a], 0, _ => by simp [mAlike1]
 | [a], k + 1, _ => by rw [List.take_of_length_le (by simp; omega)]
 | a :: b :: r, 0, h => by simp at h
 | a :: b :: r, k + 1, h => by
  rw [show 2 * (k + 1) = 2 * k + 1 + 1 by omega]
  simp only [List.take_succ_cons, mAlike1]
  rw [mAlike1_short r k (by simp at h; omega)]
theorem mLvF_mem : ∀ (f : Nat) (l : List (List UInt8)), All32 l → 0 < l.length → l.length ≤ 4096 → ∀ x ∈ mLvF f l, All32 x ∧ 0 < x.length ∧ x.length ≤ 4096
 | 0, l, h, h0, h1, x, hx => by
  rw [mLvF] at hx
  rw [List.mem_singleton.1 hx]; exact ⟨h, h0, h1⟩
 | f + 1, l, h, h0, h1, x, hx => by
  rw [mLvF] at hx
  split at hx
  ·rw [List.mem_singleton.1 hx]; exact ⟨h, h0, h1⟩
  ·rcases List.mem_cons.1 hx with hx | hx
   ·rw [hx]; exact ⟨h, h0, h1⟩
   ·exact mLvF_mem f (mUp l) (mUp_32 l) (by rw [mUp_length]; omega) (by rw [mUp_length]; omega) x hx
theorem mLv_mem (l : List (List UInt8)) (h : All32 l) (x : List (List UInt8)) (hx : x ∈ mLv l) : All32 x ∧ 0 < x.length ∧ x.length ≤ 4096 := by
 unfold mLv at hx
 split at hx
 ·cases hx
 ·exact mLvF_mem 12 l h (by omega) (by omega) x hx
theorem keepsFrom_below {B : Nat} {W W' : World} (h : Below W.heap.size W W') : KeepsFrom B W W' :=
 ⟨h.size, fun k _ _ hk _ => (h.block k (Array.getElem?_eq_some_iff.1 hk).1).trans hk⟩
theorem Av.grown {W W' : World} {g : Nat} {t : TypeId} {l : List Value} {row : Option Nat} (h : Av W g t l) (hg : W.grownBy W' row) (hrow : ∀ r, row = some r → ∃ o : Obj, W.heap[r]? = some o ∧ o.isCells = false) : Av W' g t l :=
 h.same (grownBy_keeps_cells hg hrow h rfl)
theorem Rd.setOther {w : World} {bb off : Nat} {xs : List Value} (h : Rd w (some ⟨bb, off, none⟩) xs) (a : Addr) (v : Value) (hne : a.block ≠ bb) : Rd (w.setCell a v) (some ⟨bb, off, none⟩) xs := by
 rcases h with h | ⟨b', off', hA, hc⟩
 ·exact .inl h
 ·cases hA
  exact .inr ⟨_, _, rfl, fun j u hu => (World.cell?_of_block (heap_setCell_other w a bb v (Ne.symm hne))).trans (hc j u hu)⟩
theorem mAlike_snoc (ls : List (List (List UInt8))) (j : Nat) (x : List (List UInt8)) (hx : ls[j]? = some x) : mAlike (ls.take (j + 1)) = (mAlike (ls.take j) || mAlike1 x) := by
 rw [List.take_add_one, hx, mAlike, List.any_append]
 simp [mAlike]
theorem mRootOf_snoc (ls : List (List (List UInt8))) (j : Nat) (x : List (List UInt8)) (hx : ls[j]? = some x) : mRootOf (ls.take (j + 1)) = x.getD 0 [] := by
 rw [List.take_add_one, hx, mRootOf]
 simp
theorem mRootOf_length (l : List (List UInt8)) (h : All32 l) (j : Nat) : (mRootOf ((mLv l).take j)).length = 32 := by
 unfold mRootOf
 cases hg : ((mLv l).take j).getLast? with
 | none => simp
 | some x =>
  have hx := mLv_mem l h x (List.mem_of_mem_take (List.mem_of_getLast? hg))
  exact hx.1.get 0 hx.2.1
set_option maxRecDepth 10000 in
set_option maxHeartbeats 4000000 in
theorem RootAny (l : List (List UInt8)) (h32 : All32 l) (A0 : Option Addr) (m c0 : Nat) (hm : l.length = m) (w : World) (hr : Rd w A0 (hcl l)) (ht : Tabs w) :
    Calls Tryd.prog 30 #[.slice A0 m c0] w fun e w' => e = .returned (.tuple #[.agg (hcs (mRootOf (mLv l))), .bool (mAlike (mLv l))]) ∧ Below w.heap.size w w' := by
  have hz := zeros_32
  have hzl : (List.replicate 32 (0 : UInt8)).length = 32 := by simp
  obtain ⟨zs, hzs⟩ : ∃ zs : List UInt8, zs = List.replicate 32 0 := ⟨_, rfl⟩
  rw [← hzs] at hz hzl
  replace hzs := Lib.hid hzs
  replace hzl := Lib.hid hzl
  replace hm := Lib.hid hm
  refine (callsIn_wide (n := 5)).1 ?_
  refine callsIn_of_wp_marks Tryd.func30 rfl trivial ?_ rfl
  simp only [Tryd.ntmps30, List.size_toArray, List.length_cons, List.length_nil, Nat.reduceAdd, Nat.reduceSub, Array.replicate_succ, Array.replicate_zero, List.push_toArray, List.append_toArray, List.nil_append, List.cons_append]
  refine wpIn_wide.2 ?_
  go_wp2_with (go_at_call 53; refine (levels A0 m c0 _).mono ?_; rintro e w1 ⟨rfl, rfl⟩)
  obtain ⟨W0, hW0⟩ : ∃ W0, W0 = (((w.alloc (.cells (zs.map bv).toArray 30)).alloc (.cells (zs.map bv).toArray 30)).alloc (.cells #[.bool false] 4)).alloc (.cells #[.slice A0 m c0] 23) := ⟨_, rfl⟩
  have e : ∀ (v : World) (o : Obj), (v.alloc o).heap.size = v.heap.size + 1 := fun v o => by simp
  have hsz : W0.heap.size = w.heap.size + 4 := by rw [hW0, e, e, e, e]
  have hB0 : Below w.heap.size w W0 := by rw [hW0]; exact ((((Below.refl _ _).alloc (Nat.le_refl _) _).alloc (by simp) _).alloc (by simp; omega) _).alloc (by simp; omega) _
  have hA0 : Av W0 w.heap.size 30 (zs.map bv) := by rw [hW0]; exact Av.alloc (Av.alloc (heap_alloc2_old _ _ _) _) _
  have hA1 : Av W0 (w.heap.size + 1) 30 (zs.map bv) := by rw [hW0]; exact Av.alloc (Av.alloc (heap_alloc2_new _ _ _) _) _
  have hA2 : Av W0 (w.heap.size + 1 + 1) 4 [.bool false] := by
    rw [hW0]
    refine Av.alloc ?_ _
    have := heap_alloc_new ((w.alloc (.cells (zs.map bv).toArray 30)).alloc (.cells (zs.map bv).toArray 30)) (.cells #[.bool false] 4)
    rw [e, e] at this
    exact this
  have hcb : W0.cell? ⟨w.heap.size + 1 + 1 + 1, 0, none⟩ = some (.slice A0 m c0) := by
    have := heap_alloc_new (((w.alloc (.cells (zs.map bv).toArray 30)).alloc (.cells (zs.map bv).toArray 30)).alloc (.cells #[.bool false] 4)) (.cells #[.slice A0 m c0] 23)
    rw [← hW0, e, e, e] at this
    exact Av.cell (l := [.slice A0 m c0]) this 0 _ rfl
  rw [← hW0]
  clear hW0 hz
  refine wpIn_wide.1 (wpIn_rangeFunc_lv (n := 5) (by omega) (gf := 77) (lb := #[.pointer (some ⟨w.heap.size + 1 + 1 + 1, 0, none⟩)]) rfl (enters_of Tryd.func77 (by kernel_rfl) rfl)
    (levels1_in 4 (by omega) l h32 A0 m c0 hm.out (w.heap.size + 1 + 1 + 1) W0 hcb (hr.below hB0) (by omega)) rfl
    (fun j b W => Av W (w.heap.size + 1) 30 ((mRootOf ((mLv l).take j)).map bv) ∧ Av W (w.heap.size + 1 + 1) 4 [.bool (mAlike ((mLv l).take j))] ∧ Av W w.heap.size 30 (zs.map bv) ∧ Below w.heap.size w W ∧ w.heap.size + 4 ≤ b)
    ?hI (fun j b W h => ht.below h.2.2.2.1) ?h0 (fun v => { tmps := #[.slice A0 m c0, undef, .pointer (some ⟨w.heap.size, 0, none⟩), .bool false, .pointer (some ⟨w.heap.size + 1, 0, none⟩), .pointer (some ⟨w.heap.size + 1 + 1, 0, none⟩), v, undef, .slice A0 m c0, .func (.func 77) #[] #[.pointer (some ⟨w.heap.size + 1 + 1 + 1, 0, none⟩)], v, undef, undef, undef, undef, undef, undef, undef, undef, undef, undef, undef, undef, undef, undef, undef, undef, undef, undef, undef, undef, undef, undef], defers := [] }) ?assign ?body ?done)
  case hI =>
    rintro j b W W' row ⟨i1, i2, i3, i4, i5⟩ hg hrow
    have hrow' : ∀ r, row = some r → ∃ o : Obj, W.heap[r]? = some o ∧ o.isCells = false := fun r e => (hrow r e).2
    exact ⟨i1.grown hg hrow', i2.grown hg hrow', i3.grown hg hrow', i4.grown hg i4.size (fun k e => by have := (hrow k e).1; omega), i5⟩
  case h0 =>
    intro b hb
    refine ⟨?_, hA2, hA0, hB0, by omega⟩
    rw [List.take_zero, mRootOf]
    rw [hzs.out] at hA1
    exact hA1
  case assign =>
    intro l' v W K hK
    gi_wp2
    exact hK
  case body =>
    rintro l' j x b W A c hx ⟨i1, i2, i3, i4, i5⟩ ⟨hrx, hfx⟩ hxc hbW
    obtain ⟨hx32, hx0, hx4⟩ := mLv_mem l h32 x (List.mem_of_getElem? hx)
    obtain ⟨n, hn⟩ : ∃ n, x.length = n := ⟨_, rfl⟩
    obtain ⟨bb, off, rfl⟩ := hrx.someA (hcl_ne hx32 hx0)
    have hbb : b ≤ bb := hfx _ rfl
    have hs1 := mAlike_snoc _ j x hx
    have hs2 := mRootOf_snoc _ j x hx
    have hrl := mRootOf_length l h32 j
    rw [hn] at hx0 hx4 hxc ⊢
    generalize hrt : mRootOf ((mLv l).take j) = rt at *
    generalize hal : mAlike ((mLv l).take j) = al at *
    replace hn := Lib.hid hn
    gi_wp2
    gi_loopw [7] (fun i wr => ∃ k : Nat, 2 * k ≤ n + 1 ∧ i = .int .i64 ((2 * k : Nat) : Int) ∧ KeepsFrom W0.heap.size W wr ∧ Av wr (w.heap.size + 1) 30 (rt.map bv) ∧ Av wr (w.heap.size + 1 + 1) 4 [.bool (al || mAlike1 (x.take (2 * k)))] ∧ Av wr w.heap.size 30 (zs.map bv) ∧ Below w.heap.size w wr ∧ Rd wr (some ⟨bb, off, none⟩) (hcl x)) (fun i _ => n + 1 - (intOf i).toNat)
    case atStart => exact ⟨0, by omega, rfl, KeepsFrom.refl _ _, i1, by simpa [mAlike1] using i2, i3, i4, hrx⟩
    case round =>
      clear i1 i2 i3 i4 hrx
      obtain ⟨k, hk, rfl, hkf, j1, j2, j3, j4, hrw⟩ := hrel
      by_cases hlt : 2 * k + 1 < n
      · have t1 : decide (((2 * k : Nat) : Int) + 1 < (n : Int)) = true := by simp; omega
        have hsn := mAlike1_snoc x k (by rw [hn.out]; exact hlt)
        obtain ⟨y, hy⟩ : ∃ y, y = x.getD (2 * k) [] := ⟨_, rfl⟩
        obtain ⟨z, hz⟩ : ∃ z, z = x.getD (2 * k + 1) [] := ⟨_, rfl⟩
        have hy32 : y.length = 32 := by rw [hy]; exact hx32.get _ (by rw [hn.out]; omega)
        have hz32 : z.length = 32 := by rw [hz]; exact hx32.get _ (by rw [hn.out]; omega)
        have hry := Lib.hid (fun w' (hE : Ext wr.drew w') => hy ▸ (hrw.below hE.drew).hash hx32 (2 * k) (by rw [hn.out]; omega))
        have hrz := Lib.hid (fun w' (hE : Ext wr.drew w') => hz ▸ (hrw.below hE.drew).hash hx32 (2 * k + 1) (by rw [hn.out]; omega))
        rw [← hy, ← hz] at hsn
        have heq := eqlH y z hy32 hz32
        clear hy hz
        replace hsn := Lib.hid hsn
        generalize hyz : (y == z) = yz at heq hsn
        clear hyz
        have n0 : 0 ≤ 2 * (k : Int) := by omega
        have n1 : 2 * (k : Int) < (n : Int) := by omega
        have n2 : 0 ≤ 2 * (k : Int) + 1 := by omega
        have n3 : 2 * (k : Int) + 1 < (n : Int) := by omega
        have n4 : (2 * (k : Int)).toNat = 2 * k := by omega
        have n6 : IntKind.i64.wrap (2 * (k : Int) + 1) = 2 * (k : Int) + 1 := by rw [IntKind.wrap_i64]; omega
        have n5 : (2 * (k : Int) + 1).toNat = 2 * k + 1 := by omega
        gi_wp2
        refine wpIn_region_relT 9 [] Ext (by kernel_rfl) (by kernel_rfl) (by kernel_rfl) (by kernel_rfl) (by kernel_rfl) (by kernel_rfl) Ext.refl Ext.trans (by intro p hp; cases hp) ?_
        refine ZM ?_
        refine ZM ?_
        refine ZP (fun w _ => by go_simp; first | done | rfl) ?_
        refine ZP (c := .agg (hcs y)) (fun w hw => exec_load_mid _ _ rfl bb (off + 2 * k * 32) rfl (y.map bv) _ (hry.out w hw) Tryd.underlying30 rfl (by rw [List.length_map, hy32]; kernel_rfl)) ?_
        refine ZM ?_
        refine ZM ?_
        refine ZP (fun w _ => by go_simp; first | done | rfl) ?_
        refine ZP (fun w _ => by go_simp; first | done | rfl) ?_
        refine ZP (c := .agg (hcs z)) (fun w hw => exec_load_mid _ _ rfl bb (off + (2 * k + 1) * 32) rfl (z.map bv) _ (hrz.out w hw) Tryd.underlying30 rfl (by rw [List.length_map, hz32]; kernel_rfl)) ?_
        refine relEnd fun w2 hw2 => fill_end ?_
        simp only [List.drop_succ_cons, List.drop_zero]
        replace hkf := hkf.trans (keepsFrom_below hw2.drew)
        replace j1 := j1.below hw2.drew
        replace j2 := j2.below hw2.drew
        replace j3 := j3.below hw2.drew
        replace j4 := j4.trans (hw2.drew.mono j4.size)
        replace hrw := hrw.below hw2.drew
        go_wp2
        unfold nrm
        have hfz := frozen_of_row _ _ 0 _ _ j2
        have hcl := j2.cell 0 _ rfl
        have h2k : ((2 * (k + 1) : Nat) : Int) = 2 * (k : Int) + 2 := by omega
        cases hb : yz
        · rw [hb] at hsn
          gi_wp2
          refine ⟨⟨k + 1, by omega, by rw [h2k], hkf, j1, ?_, j3, j4, hrw⟩, ?_⟩
          · rw [hsn.out, Bool.or_false]; exact j2
          · simp only [intOf]; omega
        · rw [hb] at hsn
          gi_wp2
          refine ⟨⟨k + 1, by omega, by rw [h2k], hkf.trans ((KeepsOthers.setCell _ _ _).from _), j1.other _ _ (by simp), ?_, j3.other _ _ (by simp only; omega), j4.setCell (by simp only; omega) _, hrw.setOther _ _ (by simp only; omega)⟩, ?_⟩
          · rw [hsn.out, Bool.or_true, Bool.or_true]; exact j2.set 0 _
          · simp only [intOf]; omega
      · have t1 : decide (((2 * k : Nat) : Int) + 1 < (n : Int)) = false := by simp; omega
        obtain ⟨y, hy⟩ : ∃ y, y = x.getD 0 [] := ⟨_, rfl⟩
        have hy32 : y.length = 32 := by rw [hy]; exact hx32.get _ (by rw [hn.out]; omega)
        have hry := hy ▸ hrw.hash hx32 0 (by rw [hn.out]; omega)
        rw [Nat.zero_mul, Nat.add_zero] at hry
        rw [← hy] at hs2
        clear hy
        have n0 : (0 : Int) < (n : Int) := by omega
        have hrt32 : (rt.map bv).length = 32 := by
          rw [List.length_map]
          exact hrl
        gi_wp2_with (
          refine wpListIn_of_wpList l' _ _ _ (by kernel_rfl) ?_
          go_wp2_with (first
            | refine wpList_load_mid rfl _ _ rfl bb off rfl (y.map bv) _ hry Tryd.underlying30 rfl (by rw [List.length_map, hy32]; kernel_rfl) ?_
            | (refine wpList_storeAv j4 j1 (by omega) rfl _ _ _ rfl rfl (y.map bv) rfl 32 (by rw [List.length_map, hy32]) (by kernel_rfl) (by rw [List.size_toArray]; exact hrt32) (by simp [Value.oneCell']) ?_
               intro w3 q1 q4 k3 z3))
          unfold nrm)
        have hw3 : KeepsFrom W0.heap.size wr w3 := ⟨by omega, fun k' _ hk' ho _ => (k3 k' (by omega)).trans ho⟩
        refine ⟨hkf.trans hw3, ?_, ?_, ?_, j3.same (k3 _ (by omega)), q4, by have := j4.size; have := hkf.size; omega⟩
        · rcases hrw with h | ⟨b', off', hA, hc⟩
          · exact .inl h
          · cases hA
            exact .inr ⟨_, _, rfl, fun j' u hu => (World.cell?_of_block (k3 bb (by omega))).trans (hc j' u hu)⟩
        · rw [hs2]; exact q1
        · rw [hs1, ← mAlike1_short x k (by rw [hn.out]; omega)]
          exact j2.same (k3 _ (by omega))
  case done =>
    rintro D W hD ⟨i1, i2, i3, i4, _⟩ hK
    rw [List.take_of_length_le (Nat.le_refl _)] at i1 i2
    have hrl := mRootOf_length l h32 (mLv l).length
    rw [List.take_of_length_le (Nat.le_refl _)] at hrl
    obtain ⟨rt, hrt⟩ : ∃ r, r = mRootOf (mLv l) := ⟨_, rfl⟩
    obtain ⟨al, hal⟩ : ∃ r, r = mAlike (mLv l) := ⟨_, rfl⟩
    rw [← hrt] at i1 hrl
    rw [← hal] at i2
    replace hrt := Lib.hid hrt
    replace hal := Lib.hid hal
    have hrt32 : (rt.map bv).length = 32 := by rw [List.length_map]; exact hrl
    have hcl := i2.cell 0 _ rfl
    go_wp2
    have hst : ∀ (o : Oper) (a : Act) (K : Act → World → Prop) (Q : Exit → Act → World → Prop) (x y : Operand), o.op = .store 30 x y → a.eval x = .pointer (some ⟨w.heap.size, 0, none⟩) → a.eval y = .agg (rt.map bv).toArray →
        (∀ w2, Av w2 w.heap.size 30 (rt.map bv) → Below w.heap.size w w2 → (∀ k, k ≠ w.heap.size → w2.heap[k]? = W.heap[k]?) → K (a.put o.dst undef) w2) → o.wp Tryd.prog a W.drew K Q := by
      intro o a K Q x y ho hx hy hK
      refine wp_store_row 30 x y ho w.heap.size _ hx hy 30 _ i3.drew (by rw [List.size_toArray, hrt32]; kernel_rfl) (by rw [List.size_toArray, List.size_toArray, hrt32, List.length_map, hzl.out]) (by simp [Value.oneCell']) (hK _ ?_ ?_ ?_)
      · exact setRow_heap _ _ _ _ _ _ i3.drew
      · exact below_setRow i4.drew _ _ (Nat.le_refl _)
      · exact fun _ hk => setRow_other _ _ _ _ hk
    have fin : ∀ (a : Act) (w2 : World), a.tmps.getD 2 undef = .pointer (some ⟨w.heap.size, 0, none⟩) → a.tmps.getD 3 undef = .bool al → a.defers = [{ target := .collected D, args := #[] }] → Av w2 w.heap.size 30 (rt.map bv) → Below w.heap.size w w2 → w2.heap[D]? = W.heap[D]? →
        bodyPostM Fence.wide 5 Tryd.prog Tryd.f30 (fun e w' => e = .returned (.tuple #[.agg (hcs (mRootOf (mLv l))), .bool (mAlike (mLv l))]) ∧ Below w.heap.size w w') Exit.ret a w2 := by
      intro a w2 h2 h3 hd q1 q2 q3
      have hK2 := q3.trans hK
      show LeavesInM _ _ _ _ _ _ _ _ _
      rw [hd]
      refine ⟨by simp, .inl ⟨_, _, rfl, run_takeDeferred hK2, ?_⟩⟩
      have q4 : Av (w2.putObj D (.deferred none)) w.heap.size 30 (rt.map bv) := (World.putObj_heap_other (by omega)).trans q1
      refine ⟨_, ?_, rfl, q2.grown (grownBy_putObj' w2 D (.deferred none)) q2.size (fun k e => by cases e; omega)⟩
      rw [results_cell_tmp rfl, h2, h3]
      simp only [asAddr, Sem.run_pure, Result.andThen_ok, run_loadVar_row _ _ _ _ _ _ _ q4 Tryd.underlying30 rfl (by rw [List.size_toArray, hrt32]; kernel_rfl)]
      rw [← hrt.out, ← hal.out]
    have hcd : W.drew.cell? ⟨w.heap.size + 1 + 1, 0, none⟩ = some (.bool al) := hcl
    clear hcl
    refine wp_region_any (by kernel_rfl) ?_
    change wpAny _ _ _ _ _ _ _ W.drew
    refine wpAny_step (rs := [0, 1]) (by kernel_rfl) (by simp) fun i hi => ?_
    simp only [List.mem_cons, List.not_mem_nil, or_false] at hi
    rcases hi with rfl | rfl
    · refine wpOp_run rfl rfl (exec_loadAv i1.drew _ _ rfl rfl _ 32 hrt32 Tryd.underlying30 rfl (by kernel_rfl)) ?_
      refine wpAny_step (rs := [1, 2]) (by kernel_rfl) (by simp) fun i hi => ?_
      simp only [List.mem_cons, List.not_mem_nil, or_false] at hi
      rcases hi with rfl | rfl
      · refine wpOp_run (v := .bool al) rfl rfl (by go_simp) ?_
        refine wpAny_step (rs := [2]) (by kernel_rfl) (by simp) fun i hi => ?_
        obtain rfl := List.mem_singleton.1 hi
        refine wpOp_wp rfl rfl (hst _ _ _ _ _ _ rfl rfl rfl fun w2 q1 q2 q3 => ?_)
        refine wpAny_step (rs := [3]) (by kernel_rfl) (by simp) fun i hi => ?_
        obtain rfl := List.mem_singleton.1 hi
        refine wpOp_run (v := .bool al) rfl rfl (by go_simp) ?_
        refine ⟨by kernel_rfl, ?_⟩
        go_wp2
        exact fin _ w2 rfl rfl rfl q1 q2 (q3 D (by omega))
      · refine wpOp_wp rfl rfl (hst _ _ _ _ _ _ rfl rfl rfl fun w2 q1 q2 q3 => ?_)
        have hcd2 := (World.cell?_of_block (a := ⟨w.heap.size + 1 + 1, 0, none⟩) (q3 (w.heap.size + 1 + 1) (by omega))).trans hcd
        refine wpAny_step (rs := [1]) (by kernel_rfl) (by simp) fun i hi => ?_
        obtain rfl := List.mem_singleton.1 hi
        refine wpOp_run (v := .bool al) rfl rfl (by go_simp) ?_
        refine wpAny_step (rs := [3]) (by kernel_rfl) (by simp) fun i hi => ?_
        obtain rfl := List.mem_singleton.1 hi
        refine wpOp_run (v := .bool al) rfl rfl (by go_simp) ?_
        refine ⟨by kernel_rfl, ?_⟩
        go_wp2
        exact fin _ w2 rfl rfl rfl q1 q2 (q3 D (by omega))
    · refine wpOp_run (v := .bool al) rfl rfl (by go_simp) ?_
      refine wpAny_step (rs := [0]) (by kernel_rfl) (by simp) fun i hi => ?_
      obtain rfl := List.mem_singleton.1 hi
      refine wpOp_run rfl rfl (exec_loadAv i1.drew _ _ rfl rfl _ 32 hrt32 Tryd.underlying30 rfl (by kernel_rfl)) ?_
      refine wpAny_step (rs := [2]) (by kernel_rfl) (by simp) fun i hi => ?_
      obtain rfl := List.mem_singleton.1 hi
      refine wpOp_wp rfl rfl (hst _ _ _ _ _ _ rfl rfl rfl fun w2 q1 q2 q3 => ?_)
      refine wpAny_step (rs := [3]) (by kernel_rfl) (by simp) fun i hi => ?_
      obtain rfl := List.mem_singleton.1 hi
      refine wpOp_run (v := .bool al) rfl rfl (by go_simp) ?_
      refine ⟨by kernel_rfl, ?_⟩
      go_wp2
      exact fin _ w2 rfl rfl rfl q1 q2 (q3 D (by omega))
end Go.Proofs.YtobjgebojhjhnaaDoor
