/- Qk; Qo: put together for the claim. -/
import Derived.Test.YtdkknincamkhpaaDoorQg
/- proof.Check. -/
namespace Go.Proofs.YtdkknincamkhpaaDoor
open Go.RowKit
attribute [local go_sem high] slB_lh slB_l slB_h
/-- does a part prove a leaf? -/
def qCheck (tot : Nat) (hs : List (List UInt8)) (fl : List UInt8) (root : List UInt8) (pos : Int) (y : List UInt8) : Bool := match qFnd tot hs fl pos with
  | none => false
  | some r => r.1 == root && r.2 == y
set_option maxRecDepth 100000 in
set_option maxHeartbeats 8000000 in
theorem PCheck (fl : List UInt8) (hs : List (List UInt8)) (h32 : All32 hs) (tot : Nat) (Ah : Option Addr) (nh ch : Nat) (Af : Option Addr) (nf cf : Nat) (hnh : hs.length = nh) (hnf : fl.length = nf) (ht : tot < 4294967296) (hnf2 : nf ≤ 10000) (hnh2 : nh ≤ 10000) (root y : List UInt8) (hr32 : root.length = 32) (hy32 : y.length = 32) (pos : Int) (w : World)
    (hrh : Rd w Ah (hcl hs)) (hrf : Rd w Af (fl.map bv)) (hT : Tabs w) :
    Calls Tryd.prog 17 #[.agg (trc tot Ah nh ch Af nf cf).toArray, .agg (hcs root), .int .i64 pos, .agg (hcs y)] w fun e w' => e = .returned (.bool (qCheck tot hs fl root pos y)) ∧ Below w.heap.size w w' := by
  have HF := fun w' r r2 t => PFound fl hs h32 tot Ah nh ch Af nf cf hnh hnf ht hnf2 hnh2 pos w' r r2 t
  have hf32 := fun a b h => qFnd_32 (tot := tot) (fl := fl) (pos := pos) (x := a) (y := b) h32 h
  unfold qCheck
  obtain ⟨f, hf⟩ : ∃ f, f = qFnd tot hs fl pos := ⟨_, rfl⟩
  rw [← hf] at HF hf32 ⊢
  clear hf
  unfold FndPost at HF
  obtain ⟨T, hT1⟩ : ∃ T, T = w.heap.size := ⟨_, rfl⟩
  obtain ⟨W, hW⟩ : ∃ W, W = ((w.alloc (.cells (trc tot Ah nh ch Af nf cf).toArray 33)).alloc (.cells (root.map bv).toArray 28)).alloc (.cells (y.map bv).toArray 28) := ⟨_, rfl⟩
  have bW : Below w.heap.size w W := by rw [hW]; exact (((Below.refl _ _).alloc (Nat.le_refl _) _).alloc (by simp) _).alloc (by simp; omega) _
  have aT : Av W T 33 (trc tot Ah nh ch Af nf cf) := by rw [hW, hT1]; exact (Av.newer w (trc tot Ah nh ch Af nf cf) _ _).below ((Below.refl _ _).alloc (Nat.le_refl _) _)
  have aG : Av W (T + 1) 28 (root.map bv) := by rw [hW, hT1, ← World.size_alloc w (.cells (trc tot Ah nh ch Af nf cf).toArray 33)]; exact Av.newer _ _ _ _
  have aH : Av W (T + 2) 28 (y.map bv) := by rw [hW, hT1, show w.heap.size + 2 = ((w.alloc (.cells (trc tot Ah nh ch Af nf cf).toArray 33)).alloc (.cells (root.map bv).toArray 28)).heap.size by simp]; exact Av.new _ _ _
  have HF2 := HF W (hrh.below bW) (hrf.below bW) (hT.below bW)
  have rv32 : (root.map bv).length = 32 := by rw [List.length_map, hr32]
  have yv32 : (y.map bv).length = 32 := by rw [List.length_map, hy32]
  have hzone : (zs32.map bv).all (·.oneCell') = true := rfl
  have hz := zeros_32
  rw [show List.replicate 32 (0 : UInt8) = zs32 from rfl] at hz
  replace hW := Lib.hid hW
  replace hT1 := Lib.hid hT1
  replace rv32 := Lib.hid rv32
  replace yv32 := Lib.hid yv32
  replace hzone := Lib.hid hzone
  clear HF
  cases f with
  | none =>
    dsimp only at HF2 ⊢
    replace HF2 := Lib.hid HF2
    go_enter Tryd.func17, Tryd.ntmps17
    go_upto_region 1 with fail
    rw [← hT1.out]
    rw [← hW.out]
    go_wp2_with (first
      | ((with_reducible refine wpList_loadF 33 aT ?_ _ 3 ?_ Tryd.underlying33 ?_ ?_ ?_); rfl; rfl; rfl; kernel_rfl)
      | (go_at_call 31; refine (HF2.out).mono ?_; rintro e w1 ⟨b1, rfl⟩)
      | ((with_reducible refine wpList_storeF 28 (((Below.refl w1.heap.size w1).alloc (Nat.le_refl _) _).alloc (by simp) _) (heap_alloc2_old _ _ _) (Nat.le_refl _) (zs32.map bv) ?_ ?_ 32 rfl ?_ ?_ ?_ ?_); rfl; rfl; kernel_rfl; rfl; exact hzone.out; intro w2 a2 b2 k2 z2)
      | ((with_reducible refine wpList_storeF 28 b2 ((k2 _ (by omega)).trans (heap_alloc2_new _ _ _)) (by omega) (zs32.map bv) ?_ ?_ 32 rfl ?_ ?_ ?_ ?_); rfl; rfl; kernel_rfl; rfl; exact hzone.out; intro w3 a3 b3 k3 z3))
    go_ret
    exact ⟨rfl, bW.trans ((b1.trans (b3.mono b1.size)).mono bW.size)⟩
  | some r =>
    obtain ⟨rx, ry⟩ := r
    obtain ⟨x32, z32⟩ := hf32 rx ry rfl
    dsimp only at HF2 ⊢
    have xv32 : (rx.map bv).length = 32 := by rw [List.length_map, x32]
    have zv32 : (ry.map bv).length = 32 := by rw [List.length_map, z32]
    have xone : (rx.map bv).all (·.oneCell') = true := List.all_eq_true.2 (bv_one rx)
    have zone : (ry.map bv).all (·.oneCell') = true := List.all_eq_true.2 (bv_one ry)
    have E1 := Lib.hid (fun p q w => eqlHw rx root x32 hr32 p q w)
    have E2 := Lib.hid (fun p q w => eqlHw ry y z32 hy32 p q w)
    generalize (rx == root) = c1 at E1 ⊢
    generalize (ry == y) = c2 at E2 ⊢
    replace HF2 := Lib.hid HF2
    replace xv32 := Lib.hid xv32
    replace zv32 := Lib.hid zv32
    replace xone := Lib.hid xone
    replace zone := Lib.hid zone
    clear hf32
    go_enter Tryd.func17, Tryd.ntmps17
    go_upto_region 1 with fail
    rw [← hT1.out]
    rw [← hW.out]
    go_upto_region 2 with (first
      | ((with_reducible refine wpList_loadF 33 aT ?_ _ 3 ?_ Tryd.underlying33 ?_ ?_ ?_); rfl; rfl; rfl; kernel_rfl)
      | (go_at_call 31; refine (HF2.out).mono ?_; rintro e w1 ⟨b1, rfl⟩)
      | ((with_reducible refine wpList_storeF 28 (((Below.refl w1.heap.size w1).alloc (Nat.le_refl _) _).alloc (by simp) _) (heap_alloc2_old _ _ _) (Nat.le_refl _) (rx.map bv) ?_ ?_ 32 xv32.out ?_ ?_ ?_ ?_); rfl; rfl; kernel_rfl; rfl; exact xone.out; intro w2 a2 b2 k2 z2)
      | ((with_reducible refine wpList_storeF 28 b2 ((k2 _ (by omega)).trans (heap_alloc2_new _ _ _)) (by omega) (ry.map bv) ?_ ?_ 32 zv32.out ?_ ?_ ?_ ?_); rfl; rfl; kernel_rfl; rfl; exact zone.out; intro w3 a3 b3 k3 z3))
    have a23 := a2.same (k3 _ (by omega))
    have aG3 := (aG.below b1).below b3
    have aH3 := (aH.below b1).below b3
    have bw3 := bW.trans ((b1.trans (b3.mono b1.size)).mono bW.size)
    clear k2 k3 z2 z3 b2 b3
    cases c1 <;> cases c2 <;>
    · go_wp2_with (first
        | ((with_reducible refine wpList_loadG 28 a23 ?_ ?_ _ 32 xv32.out Tryd.underlying28 ?_ ?_ ?_); rfl; rfl; rfl; kernel_rfl)
        | ((with_reducible refine wpList_loadG 28 a3 ?_ ?_ _ 32 zv32.out Tryd.underlying28 ?_ ?_ ?_); rfl; rfl; rfl; kernel_rfl)
        | ((with_reducible refine wpList_loadG 28 aG3 ?_ ?_ _ 32 rv32.out Tryd.underlying28 ?_ ?_ ?_); rfl; rfl; rfl; kernel_rfl)
        | ((with_reducible refine wpList_loadG 28 aH3 ?_ ?_ _ 32 yv32.out Tryd.underlying28 ?_ ?_ ?_); rfl; rfl; rfl; kernel_rfl)
        | ((with_reducible refine wpList_binG (op := .eql) (ty := 28) ?_ ?_ ?_ (E1.out _ _ w3) ?_); rfl; rfl; rfl)
        | ((with_reducible refine wpList_binG (op := .eql) (ty := 28) ?_ ?_ ?_ (E2.out _ _ w3) ?_); rfl; rfl; rfl))
      go_ret
      exact ⟨rfl, bw3⟩
end Go.Proofs.YtdkknincamkhpaaDoor
/- proof.climber: its cells, and what a climb keeps. -/
namespace Go.Proofs.YtdkknincamkhpaaDoor
open Go.RowKit
/-- the cells of a climber -/
abbrev clc (tot : Nat) (Ah : Option Addr) (nh ch : Nat) (Af : Option Addr) (nf cf : Nat) (pos : Int) (d k : Nat) (v : Value) : List Value := [.int .u32 (tot : Int), .slice Ah nh ch, .slice Af nf cf, .int .i64 pos, .int .i64 (d : Int), .int .i64 (k : Int), v]
/-- all is kept but block C and a slice's own block; the slice that comes of it has that block, or one made since -/
def NKeep (C : Nat) (v v' : Value) (w w' : World) : Prop := Fr (fun j => j = C ∨ v.ownBlock = some j) w w' ∧ ∀ j, v'.ownBlock = some j → v.ownBlock = some j ∨ w.heap.size ≤ j
theorem NKeep.refl (C : Nat) (v : Value) (w : World) : NKeep C v v w w := ⟨Fr.refl _ _, fun _ h => .inl h⟩
theorem NKeep.trans {C : Nat} {v v' v'' : Value} {w w' w'' : World} (h : NKeep C v v' w w') (k : NKeep C v' v'' w' w'') : NKeep C v v'' w w'' := by
  refine ⟨Fr.transNew h.1 k.1 (fun j hj => ?_), fun j hj => ?_⟩
  · rcases hj with hj | hj
    · exact .inl (.inl hj)
    · rcases h.2 j hj with h2 | h2
      · exact .inl (.inr h2)
      · exact .inr h2
  · rcases k.2 j hj with h2 | h2
    · exact h.2 j h2
    · exact .inr (Nat.le_trans h.1.size h2)
theorem NKeep.ofBelow {C : Nat} {v : Value} {w w' : World} (h : Below w.heap.size w w') : NKeep C v v w w' := ⟨Below.fr h, fun _ h => .inl h⟩
theorem NKeep.ofFr {C : Nat} {v : Value} {w w' : World} (h : Fr (fun j => j = C) w w') : NKeep C v v w w' := ⟨h.weaken fun _ _ e => .inl e, fun _ h => .inl h⟩
theorem NKeep.av {C : Nat} {v v' : Value} {w w' : World} (h : NKeep C v v' w w') {g : Nat} {t : TypeId} {l : List Value} (ha : Av w g t l) (h1 : g ≠ C) (h2 : v.ownBlock ≠ some g) : Av w' g t l := h.1.av ha (fun e => by rcases e with e | e; exact h1 e; exact h2 e)
theorem NKeep.rd {C : Nat} {v v' : Value} {w w' : World} (h : NKeep C v v' w w') {A : Option Addr} {l : List Value} (hr : Rd w A l) (h1 : ∀ a, A = some a → a.block ≠ C) (h2 : ∀ a, A = some a → v.ownBlock ≠ some a.block) : Rd w' A l := h.1.rd hr (fun a e q => by rcases q with q | q; exact h1 a e q; exact h2 a e q)
theorem and_one_val (x s : Nat) (hx : x < 256) : bits .and .u8 ((x : Int) / 2 ^ s) 1 = ((x / 2 ^ s % 2 : Nat) : Int) := by
  have e : (x : Int) / 2 ^ s = ((x / 2 ^ s : Nat) : Int) := by simp
  rw [e]
  exact and_one_fin ⟨x / 2 ^ s, Nat.lt_of_le_of_lt (Nat.div_le_self _ _) hx⟩
/-- a digit as it lies -/
theorem dig_val {fl : List UInt8} {d : Nat} {b : Bool} (h : pDig fl d = some b) : ∃ x : UInt8, fl[d / 8]? = some x ∧ x.toNat / 2 ^ (d % 8) % 2 = if b then 1 else 0 := by
  have hlt := pDig_some h
  rw [pDig_get hlt] at h
  refine ⟨fl.getD (d / 8) 0, ?_, ?_⟩
  · rw [List.getD_eq_getElem?_getD, List.getElem?_eq_getElem (by omega)]; rfl
  · cases b with
    | true => exact beq_iff_eq.1 (Option.some.inj h)
    | false =>
      have := beq_eq_false_iff_ne.1 (Option.some.inj h)
      simp only [Bool.false_eq_true, if_false]
      omega
end Go.Proofs.YtdkknincamkhpaaDoor
