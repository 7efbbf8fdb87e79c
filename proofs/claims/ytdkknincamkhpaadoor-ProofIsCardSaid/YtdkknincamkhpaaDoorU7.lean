/- florinref12.Clash. -/
import Derived.Test.YtdkknincamkhpaaDoorU5
import Derived.Test.YtdkknincamkhpaaDoorU6
import Derived.Test.YtdkknincamkhpaaDoorQx
namespace Go.Proofs.YtdkknincamkhpaaDoor
open Go.RowKit
attribute [local go_sem high] slB_lh slB_l slB_h
theorem grown_below {w w' : World} (h : w.grownBy w' none) : Below w.heap.size w w' := ⟨h.os, h.tape, h.output, h.size, fun k hk => h.block k hk (by simp)⟩
/-- 'append' of bytes to a slice without room -/
theorem exec_app0 {ρ : Operand → Value} {o : Oper} (w : World) (s x : Operand) (ho : o.op = .call { callee := .builtin .append, args := #[s, x], argTypes := #[24, 24] }) (b : Addr) (hs : ρ s = .slice (some b) 0 0) (a : Addr) (m c : Nat) (bs : List UInt8) (hx : ρ x = .slice (some a) m c) (hl : bs.length = m) (hm0 : 0 < m) (hm : m ≤ 1000000) (hr : Rd w (some a) (bs.map bv)) :
    ∃ v' w', (execOp ρ o).run Tryd.prog w = .ok (.value v') w' ∧ Below w.heap.size w w' ∧ SlW bs v' w' := by
  obtain ⟨i0, hi, hz0, hz1, hz2⟩ := info_parts info_u8
  have hcells : ∀ j u, (bs.map bv)[j]? = some u → w.cell? (a.add j) = some u := by
    intro j u hu
    rcases hr with hr | ⟨b', off, hA, hc⟩
    · rw [hr] at hu; simp at hu
    · cases hA
      rw [addr_add]
      exact hc j u hu
  obtain ⟨v', w', hrun, h2, h3⟩ := run_append_arg_grows (P := Tryd.prog) w 24 o.type 5 i0 (.int .u8 0) 1 1 Tryd.underlying24 hi hz0 hz1 hz2 rfl (by decide) b 0 0 [] rfl (by intro j u h; simp at h) a m c (bs.map bv) (by simp [hl]) hcells (by omega) (by simp only [maxLen]; omega) (by omega)
  refine ⟨v', w', ?_, grown_below h3, ?_⟩
  · unfold execOp
    simp only [ho, resolve, invoke, builtin, Sem.run_bind, Sem.run_pure, Result.andThen_ok, List.map_toArray, List.map_cons, List.map_nil, hs, hx, hrun]
  · obtain ⟨A, c', rfl, _, _⟩ := own_form h2
    exact ⟨A, c', by rw [hl, Nat.zero_add], by simpa using own_rd h2⟩
theorem rel_app0 {ρ : Operand → Value} {o : Oper} (w : World) (s x : Operand) (ho : o.op = .call { callee := .builtin .append, args := #[s, x], argTypes := #[24, 24] }) (b : Addr) (hs : ρ s = .slice (some b) 0 0) (a : Addr) (m c : Nat) (bs : List UInt8) (hx : ρ x = .slice (some a) m c) (hl : bs.length = m) (hm0 : 0 < m) (hm : m ≤ 1000000) (hr : Rd w (some a) (bs.map bv)) :
    relRes Tryd.prog Ext w (SlW bs) ((execOp ρ o).run Tryd.prog w) := by
  obtain ⟨v', w', h1, h2, h3⟩ := exec_app0 w s x ho b hs a m c bs hx hl hm0 hm hr
  rw [h1]
  exact ⟨h2, h3⟩
/-- what Clash answers: as proof.Clash does, but for the slices' room -/
def ClashPostR (w0 : World) (ans : Option (List UInt8 × List UInt8)) (e : Ending) (w' : World) : Prop :=
  Below w0.heap.size w0 w' ∧ match ans with
  | none => e = .returned (.tuple #[.slice none 0 0, .slice none 0 0, .bool false])
  | some s => ∃ A c B d, e = .returned (.tuple #[.slice A s.1.length c, .slice B s.2.length d, .bool true]) ∧ Rd w' A (s.1.map bv) ∧ Rd w' B (s.2.map bv)
set_option maxRecDepth 100000 in
set_option maxHeartbeats 8000000 in
theorem ClashR_no (fl1 : List UInt8) (hs1 : List (List UInt8)) (_ : All32 hs1) (tot1 : Nat) (Ah1 : Option Addr) (nh1 ch1 : Nat) (Af1 : Option Addr) (nf1 cf1 : Nat) (hnh1 : hs1.length = nh1) (hnf1 : fl1.length = nf1) (_ : tot1 < 4294967296) (_ : nf1 ≤ 10000) (_ : nh1 ≤ 10000)
    (fl2 : List UInt8) (hs2 : List (List UInt8)) (_ : All32 hs2) (tot2 : Nat) (Ah2 : Option Addr) (nh2 ch2 : Nat) (Af2 : Option Addr) (nf2 cf2 : Nat) (hnh2 : hs2.length = nh2) (hnf2 : fl2.length = nf2) (_ : tot2 < 4294967296) (_ : nf2 ≤ 10000) (_ : nh2 ≤ 10000)
    (pos : Int) (w : World) (r1 x1 r2 x2 : List UInt8) (f1 f2 : Bool) (r132 : r1.length = 32) (x132 : x1.length = 32) (r232 : r2.length = 32) (x232 : x2.length = 32)
    (HF1 : ∀ w', Below w.heap.size w w' → Calls Tryd.prog 33 #[.agg (trc tot1 Ah1 nh1 ch1 Af1 nf1 cf1).toArray, .int .i64 pos] w' fun e w'' => Below w'.heap.size w' w'' ∧ e = .returned (.tuple #[.agg (hcs r1), .agg (hcs x1), .bool f1]))
    (HFb : ∀ w', Below w.heap.size w w' → Calls Tryd.prog 33 #[.agg (trc tot2 Ah2 nh2 ch2 Af2 nf2 cf2).toArray, .int .i64 pos] w' fun e w'' => Below w'.heap.size w' w'' ∧ e = .returned (.tuple #[.agg (hcs r2), .agg (hcs x2), .bool f2]))
    (hway : f1 = false ∨ (f1 = true ∧ f2 = false) ∨ (f1 = true ∧ f2 = true ∧ (r1 == r2) = false) ∨ (f1 = true ∧ f2 = true ∧ (r1 == r2) = true ∧ tot1 ≠ tot2) ∨ (f1 = true ∧ f2 = true ∧ (r1 == r2) = true ∧ tot1 = tot2 ∧ (x1 == x2) = true)) :
    Calls Tryd.prog 15 #[.agg (trc tot1 Ah1 nh1 ch1 Af1 nf1 cf1).toArray, .agg (trc tot2 Ah2 nh2 ch2 Af2 nf2 cf2).toArray, .int .i64 pos] w (ClashPostR w none) := by
  replace hway := Lib.hid hway
  have rv1 : (r1.map bv).length = 32 := by rw [List.length_map, r132]
  have xv1 : (x1.map bv).length = 32 := by rw [List.length_map, x132]
  have rv2 : (r2.map bv).length = 32 := by rw [List.length_map, r232]
  have xv2 : (x2.map bv).length = 32 := by rw [List.length_map, x232]
  have rone1 : (r1.map bv).all (·.oneCell') = true := List.all_eq_true.2 (bv_one r1)
  have xone1 : (x1.map bv).all (·.oneCell') = true := List.all_eq_true.2 (bv_one x1)
  have rone2 : (r2.map bv).all (·.oneCell') = true := List.all_eq_true.2 (bv_one r2)
  have xone2 : (x2.map bv).all (·.oneCell') = true := List.all_eq_true.2 (bv_one x2)
  have hz := zeros_32
  rw [show List.replicate 32 (0 : UInt8) = zs32 from rfl] at hz
  obtain ⟨T, hT1⟩ : ∃ T, T = w.heap.size := ⟨_, rfl⟩
  obtain ⟨W, hW⟩ : ∃ W, W = (w.alloc (.cells (trc tot1 Ah1 nh1 ch1 Af1 nf1 cf1).toArray 26)).alloc (.cells (trc tot2 Ah2 nh2 ch2 Af2 nf2 cf2).toArray 26) := ⟨_, rfl⟩
  have bW : Below w.heap.size w W := by rw [hW]; exact ((Below.refl _ _).alloc (Nat.le_refl _) _).alloc (by simp) _
  have aT1 : Av W T 26 (trc tot1 Ah1 nh1 ch1 Af1 nf1 cf1) := by rw [hW, hT1]; exact Av.newer w (trc tot1 Ah1 nh1 ch1 Af1 nf1 cf1) _ _
  have aT2 : Av W (T + 1) 26 (trc tot2 Ah2 nh2 ch2 Af2 nf2 cf2) := by rw [hW, hT1, ← World.size_alloc w (.cells (trc tot1 Ah1 nh1 ch1 Af1 nf1 cf1).toArray 26)]; exact Av.new _ _ _
  have E1 := fun p q w => neqHw r1 r2 r132 r232 p q w
  have E3 := fun p q w => eqlHw x1 x2 x132 x232 p q w
  have HF2 := HF1 W bW
  replace HF2 := Lib.hid HF2
  replace HFb := Lib.hid HFb
  replace E1 := Lib.hid E1
  replace E3 := Lib.hid E3
  replace hW := Lib.hid hW
  replace hT1 := Lib.hid hT1
  replace rv1 := Lib.hid rv1
  replace xv1 := Lib.hid xv1
  replace rv2 := Lib.hid rv2
  replace xv2 := Lib.hid xv2
  replace rone1 := Lib.hid rone1
  replace xone1 := Lib.hid xone1
  replace rone2 := Lib.hid rone2
  replace xone2 := Lib.hid xone2
  replace r132 := Lib.hid r132
  replace x132 := Lib.hid x132
  replace r232 := Lib.hid r232
  replace x232 := Lib.hid x232
  replace hnh1 := Lib.hid hnh1
  replace hnf1 := Lib.hid hnf1
  replace hnh2 := Lib.hid hnh2
  replace hnf2 := Lib.hid hnf2
  clear HF1
  go_enter Tryd.func15, Tryd.ntmps15
  go_upto_region 1 with fail
  rw [← hT1.out]
  rw [← hW.out]
  go_upto_region 2 with (first
    | ((with_reducible refine wpList_loadF 26 aT1 ?_ _ 3 ?_ Tryd.underlying26 ?_ ?_ ?_); rfl; rfl; rfl; kernel_rfl)
    | (go_at_call 33; refine (HF2.out).mono ?_; rintro e w1 ⟨b1, rfl⟩)
    | ((with_reducible refine wpList_storeF 28 (((Below.refl w1.heap.size w1).alloc (Nat.le_refl _) _).alloc (by simp) _) (heap_alloc2_old _ _ _) (Nat.le_refl _) (r1.map bv) ?_ ?_ 32 rv1.out ?_ ?_ ?_ ?_); rfl; rfl; kernel_rfl; rfl; exact rone1.out; intro w2 a2 b2 k2 z2)
    | ((with_reducible refine wpList_storeF 28 b2 ((k2 _ (by omega)).trans (heap_alloc2_new _ _ _)) (by omega) (x1.map bv) ?_ ?_ 32 xv1.out ?_ ?_ ?_ ?_); rfl; rfl; kernel_rfl; rfl; exact xone1.out; intro w3 a3 b3 k3 z3))
  have a9 := a2.same (k3 _ (by omega))
  have bW3 := bW.trans ((b1.trans (b3.mono b1.size)).mono bW.size)
  have aT13 := (aT1.below b1).below b3
  have aT23 := (aT2.below b1).below b3
  obtain ⟨g9, hg9⟩ : ∃ g9, g9 = w1.heap.size := ⟨_, rfl⟩
  rw [← hg9] at a9 a3 ⊢
  have s3 : g9 + 1 < w3.heap.size := a3.lt
  have a10 := a3
  clear a2 b2 k2 z2 k3 z3 b3 b1 aT1 aT2 HF2 bW
  replace hg9 := Lib.hid hg9
  have HFb2 := HFb.out w3 bW3
  replace HFb2 := Lib.hid HFb2
  go_upto_region 3 with (first
    | ((with_reducible refine wpList_loadF 26 aT23 ?_ _ 3 ?_ Tryd.underlying26 ?_ ?_ ?_); rfl; rfl; rfl; kernel_rfl)
    | (go_at_call 33; refine (HFb2.out).mono ?_; rintro e w4 ⟨b4, rfl⟩)
    | ((with_reducible refine wpList_storeF 28 (((Below.refl w4.heap.size w4).alloc (Nat.le_refl _) _).alloc (by simp) _) (heap_alloc2_old _ _ _) (Nat.le_refl _) (r2.map bv) ?_ ?_ 32 rv2.out ?_ ?_ ?_ ?_); rfl; rfl; kernel_rfl; rfl; exact rone2.out; intro w5 a5 b5 k5 z5)
    | ((with_reducible refine wpList_storeF 28 b5 ((k5 _ (by omega)).trans (heap_alloc2_new _ _ _)) (by omega) (x2.map bv) ?_ ?_ 32 xv2.out ?_ ?_ ?_ ?_); rfl; rfl; kernel_rfl; rfl; exact xone2.out; intro w6 a6 b6 k6 z6))
  have a12 := a5.same (k6 _ (by omega))
  have bw6 := bW3.trans ((b4.trans (b6.mono b4.size)).mono bW3.size)
  have aT16 := (aT13.below b4).below b6
  have aT26 := (aT23.below b4).below b6
  have a96 := (a9.below b4).below b6
  have a106 := (a10.below b4).below b6
  obtain ⟨g12, hg12⟩ : ∃ g12, g12 = w4.heap.size := ⟨_, rfl⟩
  rw [← hg12] at a12 a6 ⊢
  have a13 := a6
  have cT1 := aT16.cell 0 _ rfl
  have cT2 := aT26.cell 0 _ rfl
  clear a5 b5 k5 z5 k6 z6 b6 b4 aT13 aT23 HFb HFb2 a9 a10 a3 a6 bW3
  replace hg12 := Lib.hid hg12
  replace E1 := E1.out
  replace E3 := E3.out
  rcases hway.out with hw1 | hw1 | hw1 | hw1 | hw1
  · obtain rfl := hw1
    clear hway
    replace E1 := Lib.hid E1
    replace E3 := Lib.hid E3
    go_wp2_with (first
        | ((with_reducible refine wpList_loadG 28 a96 ?_ ?_ _ 32 rv1.out Tryd.underlying28 ?_ ?_ ?_); rfl; rfl; rfl; kernel_rfl)
        | ((with_reducible refine wpList_loadG 28 a12 ?_ ?_ _ 32 rv2.out Tryd.underlying28 ?_ ?_ ?_); rfl; rfl; rfl; kernel_rfl)
        | ((with_reducible refine wpList_loadG 28 a106 ?_ ?_ _ 32 xv1.out Tryd.underlying28 ?_ ?_ ?_); rfl; rfl; rfl; kernel_rfl)
        | ((with_reducible refine wpList_loadG 28 a13 ?_ ?_ _ 32 xv2.out Tryd.underlying28 ?_ ?_ ?_); rfl; rfl; rfl; kernel_rfl)
        | ((with_reducible refine wpList_binG (op := .neq) (ty := 28) ?_ ?_ ?_ (E1.out _ _ w6) ?_); rfl; rfl; rfl)
        | ((with_reducible refine wpList_binG (op := .eql) (ty := 28) ?_ ?_ ?_ (E3.out _ _ w6) ?_); rfl; rfl; rfl))
    go_ret3
    exact ⟨bw6, rfl⟩
  · obtain ⟨rfl, rfl⟩ := hw1
    clear hway
    replace E1 := Lib.hid E1
    replace E3 := Lib.hid E3
    go_wp2_with (first
        | ((with_reducible refine wpList_loadG 28 a96 ?_ ?_ _ 32 rv1.out Tryd.underlying28 ?_ ?_ ?_); rfl; rfl; rfl; kernel_rfl)
        | ((with_reducible refine wpList_loadG 28 a12 ?_ ?_ _ 32 rv2.out Tryd.underlying28 ?_ ?_ ?_); rfl; rfl; rfl; kernel_rfl)
        | ((with_reducible refine wpList_loadG 28 a106 ?_ ?_ _ 32 xv1.out Tryd.underlying28 ?_ ?_ ?_); rfl; rfl; rfl; kernel_rfl)
        | ((with_reducible refine wpList_loadG 28 a13 ?_ ?_ _ 32 xv2.out Tryd.underlying28 ?_ ?_ ?_); rfl; rfl; rfl; kernel_rfl)
        | ((with_reducible refine wpList_binG (op := .neq) (ty := 28) ?_ ?_ ?_ (E1.out _ _ w6) ?_); rfl; rfl; rfl)
        | ((with_reducible refine wpList_binG (op := .eql) (ty := 28) ?_ ?_ ?_ (E3.out _ _ w6) ?_); rfl; rfl; rfl))
    go_ret3
    exact ⟨bw6, rfl⟩
  · obtain ⟨rfl, rfl, hw1⟩ := hw1
    rw [hw1] at E1
    clear hw1
    clear hway
    replace E1 := Lib.hid E1
    replace E3 := Lib.hid E3
    go_wp2_with (first
        | ((with_reducible refine wpList_loadG 28 a96 ?_ ?_ _ 32 rv1.out Tryd.underlying28 ?_ ?_ ?_); rfl; rfl; rfl; kernel_rfl)
        | ((with_reducible refine wpList_loadG 28 a12 ?_ ?_ _ 32 rv2.out Tryd.underlying28 ?_ ?_ ?_); rfl; rfl; rfl; kernel_rfl)
        | ((with_reducible refine wpList_loadG 28 a106 ?_ ?_ _ 32 xv1.out Tryd.underlying28 ?_ ?_ ?_); rfl; rfl; rfl; kernel_rfl)
        | ((with_reducible refine wpList_loadG 28 a13 ?_ ?_ _ 32 xv2.out Tryd.underlying28 ?_ ?_ ?_); rfl; rfl; rfl; kernel_rfl)
        | ((with_reducible refine wpList_binG (op := .neq) (ty := 28) ?_ ?_ ?_ (E1.out _ _ w6) ?_); rfl; rfl; rfl)
        | ((with_reducible refine wpList_binG (op := .eql) (ty := 28) ?_ ?_ ?_ (E3.out _ _ w6) ?_); rfl; rfl; rfl))
    go_ret3
    exact ⟨bw6, rfl⟩
  · obtain ⟨rfl, rfl, hw1, hw2⟩ := hw1
    rw [hw1] at E1
    have t1 : ((tot1 : Int) != (tot2 : Int)) = true := by simp; omega
    clear hw1 hw2
    clear hway
    replace E1 := Lib.hid E1
    replace E3 := Lib.hid E3
    go_wp2_with (first
        | ((with_reducible refine wpList_loadG 28 a96 ?_ ?_ _ 32 rv1.out Tryd.underlying28 ?_ ?_ ?_); rfl; rfl; rfl; kernel_rfl)
        | ((with_reducible refine wpList_loadG 28 a12 ?_ ?_ _ 32 rv2.out Tryd.underlying28 ?_ ?_ ?_); rfl; rfl; rfl; kernel_rfl)
        | ((with_reducible refine wpList_loadG 28 a106 ?_ ?_ _ 32 xv1.out Tryd.underlying28 ?_ ?_ ?_); rfl; rfl; rfl; kernel_rfl)
        | ((with_reducible refine wpList_loadG 28 a13 ?_ ?_ _ 32 xv2.out Tryd.underlying28 ?_ ?_ ?_); rfl; rfl; rfl; kernel_rfl)
        | ((with_reducible refine wpList_binG (op := .neq) (ty := 28) ?_ ?_ ?_ (E1.out _ _ w6) ?_); rfl; rfl; rfl)
        | ((with_reducible refine wpList_binG (op := .eql) (ty := 28) ?_ ?_ ?_ (E3.out _ _ w6) ?_); rfl; rfl; rfl))
    go_ret3
    exact ⟨bw6, rfl⟩
  · obtain ⟨rfl, rfl, hw1, hw2, hw3⟩ := hw1
    rw [hw1] at E1
    rw [hw3] at E3
    have t1 : ((tot1 : Int) != (tot2 : Int)) = false := by simp; omega
    clear hw1 hw2 hw3
    clear hway
    replace E1 := Lib.hid E1
    replace E3 := Lib.hid E3
    go_wp2_with (first
        | ((with_reducible refine wpList_loadG 28 a96 ?_ ?_ _ 32 rv1.out Tryd.underlying28 ?_ ?_ ?_); rfl; rfl; rfl; kernel_rfl)
        | ((with_reducible refine wpList_loadG 28 a12 ?_ ?_ _ 32 rv2.out Tryd.underlying28 ?_ ?_ ?_); rfl; rfl; rfl; kernel_rfl)
        | ((with_reducible refine wpList_loadG 28 a106 ?_ ?_ _ 32 xv1.out Tryd.underlying28 ?_ ?_ ?_); rfl; rfl; rfl; kernel_rfl)
        | ((with_reducible refine wpList_loadG 28 a13 ?_ ?_ _ 32 xv2.out Tryd.underlying28 ?_ ?_ ?_); rfl; rfl; rfl; kernel_rfl)
        | ((with_reducible refine wpList_binG (op := .neq) (ty := 28) ?_ ?_ ?_ (E1.out _ _ w6) ?_); rfl; rfl; rfl)
        | ((with_reducible refine wpList_binG (op := .eql) (ty := 28) ?_ ?_ ?_ (E3.out _ _ w6) ?_); rfl; rfl; rfl))
    go_ret3
    exact ⟨bw6, rfl⟩
set_option maxRecDepth 100000 in
set_option maxHeartbeats 16000000 in
theorem ClashR_go (fl1 : List UInt8) (hs1 : List (List UInt8)) (g32 : All32 hs1) (tot1 : Nat) (Ah1 : Option Addr) (nh1 ch1 : Nat) (Af1 : Option Addr) (nf1 cf1 : Nat) (hnh1 : hs1.length = nh1) (hnf1 : fl1.length = nf1) (ht1 : tot1 < 4294967296) (hnf12 : nf1 ≤ 10000) (hnh12 : nh1 ≤ 10000)
    (fl2 : List UInt8) (hs2 : List (List UInt8)) (k32 : All32 hs2) (tot2 : Nat) (Ah2 : Option Addr) (nh2 ch2 : Nat) (Af2 : Option Addr) (nf2 cf2 : Nat) (hnh2 : hs2.length = nh2) (hnf2 : fl2.length = nf2) (ht2 : tot2 < 4294967296) (hnf22 : nf2 ≤ 10000) (hnh22 : nh2 ≤ 10000)
    (hts : tot1 = tot2) (pos : Int) (w : World) (hrh1 : Rd w Ah1 (hcl hs1)) (hrf1 : Rd w Af1 (fl1.map bv)) (hrh2 : Rd w Ah2 (hcl hs2)) (hrf2 : Rd w Af2 (fl2.map bv)) (r1 x1 r2 x2 : List UInt8) (hq1 : qFnd tot1 hs1 fl1 pos = some (r1, x1)) (hq2 : qFnd tot2 hs2 fl2 pos = some (r2, x2)) (hrr : (r1 == r2) = true) (hxx : (x1 == x2) = false) :
    Calls Tryd.prog 15 #[.agg (trc tot1 Ah1 nh1 ch1 Af1 nf1 cf1).toArray, .agg (trc tot2 Ah2 nh2 ch2 Af2 nf2 cf2).toArray, .int .i64 pos] w (ClashPostR w ((qFst (qSt x1 (qPath tot1 hs1 fl1 pos) pos.toNat) (qSt x2 (qPath tot2 hs2 fl2 pos) pos.toNat)).map qWit)) := by
  obtain ⟨r132, x132⟩ := qFnd_32 g32 hq1
  obtain ⟨r232, x232⟩ := qFnd_32 k32 hq2
  have HF1 : ∀ w', Below w.heap.size w w' → Calls Tryd.prog 33 #[.agg (trc tot1 Ah1 nh1 ch1 Af1 nf1 cf1).toArray, .int .i64 pos] w' fun e w'' => Below w'.heap.size w' w'' ∧ e = .returned (.tuple #[.agg (hcs r1), .agg (hcs x1), .bool true]) := fun w' b => FindRH fl1 hs1 g32 tot1 Ah1 nh1 ch1 Af1 nf1 cf1 hnh1 hnf1 ht1 hnf12 hnh12 pos w' (hrh1.below b) (hrf1.below b) (r1, x1, true) (by rw [hq1]; rfl)
  have HFb : ∀ w', Below w.heap.size w w' → Calls Tryd.prog 33 #[.agg (trc tot2 Ah2 nh2 ch2 Af2 nf2 cf2).toArray, .int .i64 pos] w' fun e w'' => Below w'.heap.size w' w'' ∧ e = .returned (.tuple #[.agg (hcs r2), .agg (hcs x2), .bool true]) := fun w' b => FindRH fl2 hs2 k32 tot2 Ah2 nh2 ch2 Af2 nf2 cf2 hnh2 hnf2 ht2 hnf22 hnh22 pos w' (hrh2.below b) (hrf2.below b) (r2, x2, true) (by rw [hq2]; rfl)
  have HP1 := fun w' b => PathR fl1 hs1 g32 tot1 Ah1 nh1 ch1 Af1 nf1 cf1 hnh1 hnf1 ht1 hnf12 hnh12 pos w' (Rd.below hrh1 b) (Rd.below hrf1 b)
  have HP2 := fun w' b => PathR fl2 hs2 k32 tot2 Ah2 nh2 ch2 Af2 nf2 cf2 hnh2 hnf2 ht2 hnf22 hnh22 pos w' (Rd.below hrh2 b) (Rd.below hrf2 b)
  rw [hq1] at HP1
  rw [hq2] at HP2
  obtain ⟨ql1, -, hp0, htot1, hp1⟩ := qPath_climbs hq1
  obtain ⟨ql2, -, -, -, -⟩ := qPath_climbs hq2
  have p32 := qPath_32 tot1 hs1 fl1 pos g32
  have q32 := qPath_32 tot2 hs2 fl2 pos k32
  replace ql2 := ql2.trans (congrArg pHt hts.symm)
  obtain ⟨N, hN⟩ : ∃ N, N = pHt tot1 := ⟨_, rfl⟩
  have hN12 : N ≤ 12 := by rw [hN]; exact (pHt_spec tot1 htot1).1
  rw [← hN] at ql1 ql2
  obtain ⟨P1, hP1⟩ : ∃ P1, P1 = qPath tot1 hs1 fl1 pos := ⟨_, rfl⟩
  obtain ⟨P2, hP2⟩ : ∃ P2, P2 = qPath tot2 hs2 fl2 pos := ⟨_, rfl⟩
  rw [← hP1] at HP1 ql1 p32 ⊢
  rw [← hP2] at HP2 ql2 q32 ⊢
  have m1 : max pos 0 = (pos.toNat : Int) := by omega
  have m2 : pos.toNat < 9223372036854775808 := by omega
  have HS1 := fun A c w' r => StepsR x1 x132 P1 p32 pos pos.toNat m1 m2 A N c ql1 (by omega) w' r
  have HS2 := fun A c w' r => StepsR x2 x232 P2 q32 pos pos.toNat m1 m2 A N c ql2 (by omega) w' r
  have K64 := qSt_64 x1 P1 pos.toNat x132 p32
  have L64 := qSt_64 x2 P2 pos.toNat x232 q32
  have Kl : (qSt x1 P1 pos.toNat).length = N := by rw [qSt_length, ql1]
  have Ll : (qSt x2 P2 pos.toNat).length = N := by rw [qSt_length, ql2]
  obtain ⟨K, hK⟩ : ∃ K, K = qSt x1 P1 pos.toNat := ⟨_, rfl⟩
  obtain ⟨L, hL⟩ : ∃ L, L = qSt x2 P2 pos.toNat := ⟨_, rfl⟩
  rw [← hK] at HS1 K64 Kl ⊢
  rw [← hL] at HS2 L64 Ll ⊢
  unfold StepsPostR at HS1 HS2
  unfold PathPost at HP1 HP2
  simp only [Option.map_some, ql1] at HP1
  simp only [Option.map_some, ql2] at HP2
  simp only [Kl] at HS1
  simp only [Ll] at HS2
  obtain ⟨ans, hans⟩ : ∃ ans, ans = qFst K L := ⟨_, rfl⟩
  rw [← hans]
  have t1 : ((tot1 : Int) != (tot2 : Int)) = false := by simp; omega
  clear hts m1 m2 hq1 hq2 htot1
  replace hans := Lib.hid hans
  replace hK := Lib.hid hK
  replace hL := Lib.hid hL
  replace hN := Lib.hid hN
  replace hP1 := Lib.hid hP1
  replace hP2 := Lib.hid hP2
  replace HP1 := Lib.hid HP1
  replace HP2 := Lib.hid HP2
  replace HS1 := Lib.hid HS1
  replace HS2 := Lib.hid HS2
  replace K64 := Lib.hid K64
  replace L64 := Lib.hid L64
  replace Kl := Lib.hid Kl
  replace Ll := Lib.hid Ll
  replace ql1 := Lib.hid ql1
  replace ql2 := Lib.hid ql2
  replace hrr := Lib.hid hrr
  replace hxx := Lib.hid hxx
  have rv1 : (r1.map bv).length = 32 := by rw [List.length_map, r132]
  have xv1 : (x1.map bv).length = 32 := by rw [List.length_map, x132]
  have rv2 : (r2.map bv).length = 32 := by rw [List.length_map, r232]
  have xv2 : (x2.map bv).length = 32 := by rw [List.length_map, x232]
  have rone1 : (r1.map bv).all (·.oneCell') = true := List.all_eq_true.2 (bv_one r1)
  have xone1 : (x1.map bv).all (·.oneCell') = true := List.all_eq_true.2 (bv_one x1)
  have rone2 : (r2.map bv).all (·.oneCell') = true := List.all_eq_true.2 (bv_one r2)
  have xone2 : (x2.map bv).all (·.oneCell') = true := List.all_eq_true.2 (bv_one x2)
  have hz := zeros_32
  rw [show List.replicate 32 (0 : UInt8) = zs32 from rfl] at hz
  obtain ⟨T, hT1⟩ : ∃ T, T = w.heap.size := ⟨_, rfl⟩
  obtain ⟨W, hW⟩ : ∃ W, W = (w.alloc (.cells (trc tot1 Ah1 nh1 ch1 Af1 nf1 cf1).toArray 26)).alloc (.cells (trc tot2 Ah2 nh2 ch2 Af2 nf2 cf2).toArray 26) := ⟨_, rfl⟩
  have bW : Below w.heap.size w W := by rw [hW]; exact ((Below.refl _ _).alloc (Nat.le_refl _) _).alloc (by simp) _
  have aT1 : Av W T 26 (trc tot1 Ah1 nh1 ch1 Af1 nf1 cf1) := by rw [hW, hT1]; exact Av.newer w (trc tot1 Ah1 nh1 ch1 Af1 nf1 cf1) _ _
  have aT2 : Av W (T + 1) 26 (trc tot2 Ah2 nh2 ch2 Af2 nf2 cf2) := by rw [hW, hT1, ← World.size_alloc w (.cells (trc tot1 Ah1 nh1 ch1 Af1 nf1 cf1).toArray 26)]; exact Av.new _ _ _
  have E1 := fun p q w => neqHw r1 r2 r132 r232 p q w
  have E3 := fun p q w => eqlHw x1 x2 x132 x232 p q w
  have HF2 := HF1 W bW
  replace HF2 := Lib.hid HF2
  replace HFb := Lib.hid HFb
  replace E1 := Lib.hid E1
  replace E3 := Lib.hid E3
  replace hW := Lib.hid hW
  replace hT1 := Lib.hid hT1
  replace rv1 := Lib.hid rv1
  replace xv1 := Lib.hid xv1
  replace rv2 := Lib.hid rv2
  replace xv2 := Lib.hid xv2
  replace rone1 := Lib.hid rone1
  replace xone1 := Lib.hid xone1
  replace rone2 := Lib.hid rone2
  replace xone2 := Lib.hid xone2
  replace r132 := Lib.hid r132
  replace x132 := Lib.hid x132
  replace r232 := Lib.hid r232
  replace x232 := Lib.hid x232
  replace hnh1 := Lib.hid hnh1
  replace hnf1 := Lib.hid hnf1
  replace hnh2 := Lib.hid hnh2
  replace hnf2 := Lib.hid hnf2
  clear HF1
  go_enter Tryd.func15, Tryd.ntmps15
  go_upto_region 1 with fail
  rw [← hT1.out]
  rw [← hW.out]
  go_upto_region 2 with (first
    | ((with_reducible refine wpList_loadF 26 aT1 ?_ _ 3 ?_ Tryd.underlying26 ?_ ?_ ?_); rfl; rfl; rfl; kernel_rfl)
    | (go_at_call 33; refine (HF2.out).mono ?_; rintro e w1 ⟨b1, rfl⟩)
    | ((with_reducible refine wpList_storeF 28 (((Below.refl w1.heap.size w1).alloc (Nat.le_refl _) _).alloc (by simp) _) (heap_alloc2_old _ _ _) (Nat.le_refl _) (r1.map bv) ?_ ?_ 32 rv1.out ?_ ?_ ?_ ?_); rfl; rfl; kernel_rfl; rfl; exact rone1.out; intro w2 a2 b2 k2 z2)
    | ((with_reducible refine wpList_storeF 28 b2 ((k2 _ (by omega)).trans (heap_alloc2_new _ _ _)) (by omega) (x1.map bv) ?_ ?_ 32 xv1.out ?_ ?_ ?_ ?_); rfl; rfl; kernel_rfl; rfl; exact xone1.out; intro w3 a3 b3 k3 z3))
  have a9 := a2.same (k3 _ (by omega))
  have bW3 := bW.trans ((b1.trans (b3.mono b1.size)).mono bW.size)
  have aT13 := (aT1.below b1).below b3
  have aT23 := (aT2.below b1).below b3
  obtain ⟨g9, hg9⟩ : ∃ g9, g9 = w1.heap.size := ⟨_, rfl⟩
  rw [← hg9] at a9 a3 ⊢
  have s3 : g9 + 1 < w3.heap.size := a3.lt
  have a10 := a3
  clear a2 b2 k2 z2 k3 z3 b3 b1 aT1 aT2 HF2 bW
  replace hg9 := Lib.hid hg9
  have HFb2 := HFb.out w3 bW3
  replace HFb2 := Lib.hid HFb2
  go_upto_region 3 with (first
    | ((with_reducible refine wpList_loadF 26 aT23 ?_ _ 3 ?_ Tryd.underlying26 ?_ ?_ ?_); rfl; rfl; rfl; kernel_rfl)
    | (go_at_call 33; refine (HFb2.out).mono ?_; rintro e w4 ⟨b4, rfl⟩)
    | ((with_reducible refine wpList_storeF 28 (((Below.refl w4.heap.size w4).alloc (Nat.le_refl _) _).alloc (by simp) _) (heap_alloc2_old _ _ _) (Nat.le_refl _) (r2.map bv) ?_ ?_ 32 rv2.out ?_ ?_ ?_ ?_); rfl; rfl; kernel_rfl; rfl; exact rone2.out; intro w5 a5 b5 k5 z5)
    | ((with_reducible refine wpList_storeF 28 b5 ((k5 _ (by omega)).trans (heap_alloc2_new _ _ _)) (by omega) (x2.map bv) ?_ ?_ 32 xv2.out ?_ ?_ ?_ ?_); rfl; rfl; kernel_rfl; rfl; exact xone2.out; intro w6 a6 b6 k6 z6))
  have a12 := a5.same (k6 _ (by omega))
  have bw6 := bW3.trans ((b4.trans (b6.mono b4.size)).mono bW3.size)
  have aT16 := (aT13.below b4).below b6
  have aT26 := (aT23.below b4).below b6
  have a96 := (a9.below b4).below b6
  have a106 := (a10.below b4).below b6
  obtain ⟨g12, hg12⟩ : ∃ g12, g12 = w4.heap.size := ⟨_, rfl⟩
  rw [← hg12] at a12 a6 ⊢
  have a13 := a6
  have cT1 := aT16.cell 0 _ rfl
  have cT2 := aT26.cell 0 _ rfl
  clear a5 b5 k5 z5 k6 z6 b6 b4 aT13 aT23 HFb HFb2 a9 a10 a3 a6 bW3
  replace hg12 := Lib.hid hg12
  replace E1 := E1.out
  replace E3 := E3.out
  rw [hrr.out] at E1
  rw [hxx.out] at E3
  replace E1 := Lib.hid E1
  replace E3 := Lib.hid E3
  go_upto_region 5 with (first
    | ((with_reducible refine wpList_loadG 28 a96 ?_ ?_ _ 32 rv1.out Tryd.underlying28 ?_ ?_ ?_); rfl; rfl; rfl; kernel_rfl)
    | ((with_reducible refine wpList_loadG 28 a12 ?_ ?_ _ 32 rv2.out Tryd.underlying28 ?_ ?_ ?_); rfl; rfl; rfl; kernel_rfl)
    | ((with_reducible refine wpList_loadG 28 a106 ?_ ?_ _ 32 xv1.out Tryd.underlying28 ?_ ?_ ?_); rfl; rfl; rfl; kernel_rfl)
    | ((with_reducible refine wpList_loadG 28 a13 ?_ ?_ _ 32 xv2.out Tryd.underlying28 ?_ ?_ ?_); rfl; rfl; rfl; kernel_rfl)
    | ((with_reducible refine wpList_binG (op := .neq) (ty := 28) ?_ ?_ ?_ (E1.out _ _ w6) ?_); rfl; rfl; rfl)
    | ((with_reducible refine wpList_binG (op := .eql) (ty := 28) ?_ ?_ ?_ (E3.out _ _ w6) ?_); rfl; rfl; rfl))
  have HP12 := HP1.out w6 bw6
  replace HP12 := Lib.hid HP12
  clear HP1 a96 a12 E1 E3 cT1 cT2
  go_upto_region 6 with (first
    | ((with_reducible refine wpList_loadF 26 aT16 ?_ _ 3 ?_ Tryd.underlying26 ?_ ?_ ?_); rfl; rfl; rfl; kernel_rfl)
    | (go_at_call 13; refine (HP12.out).mono ?_; rintro e w7 ⟨b7, A7, c7, rfl, hc7, hA7, rd7⟩))
  have bw7 := bw6.trans (b7.mono bw6.size)
  have HP22 := HP2.out w7 bw7
  have aT27 := aT26.below b7
  have a107 := a106.below b7
  have a137 := a13.below b7
  replace HP22 := Lib.hid HP22
  clear HP2 HP12 aT26 a106 a13 aT16 b7 bw6
  replace hA7 := Lib.hid hA7
  go_upto_region 7 with (first
    | ((with_reducible refine wpList_loadF 26 aT27 ?_ _ 3 ?_ Tryd.underlying26 ?_ ?_ ?_); rfl; rfl; rfl; kernel_rfl)
    | (go_at_call 13; refine (HP22.out).mono ?_; rintro e w8 ⟨b8, A8, c8, rfl, hc8, hA8, rd8⟩))
  have bw8 := bw7.trans (b8.mono bw7.size)
  have a108 := a107.below b8
  have a138 := a137.below b8
  have rd78 := rd7.below b8
  have HS12 := Lib.hid (HS1.out A7 c7 w8 rd78)
  clear HP22 aT27 a107 a137 b8 bw7 HS1 rd7
  replace hA8 := Lib.hid hA8
  go_upto_region 8 with (first
    | ((with_reducible refine wpList_loadF 28 a108 ?_ _ 32 xv1.out Tryd.underlying28 ?_ ?_ ?_); rfl; rfl; kernel_rfl)
    | (go_at_call 21; refine (HS12.out).mono ?_; rintro e wa ⟨ba, A1, c1, gs1, rfl, rg1, st1⟩))
  have bwa := bw8.trans (ba.mono bw8.size)
  have a13a := a138.below ba
  have HS22 := Lib.hid (HS2.out A8 c8 wa (rd8.below ba))
  clear HS12 HS2 a108 a138 rd78 rd8 ba bw8
  go_upto_region 9 with (first
    | ((with_reducible refine wpList_loadF 28 a13a ?_ _ 32 xv2.out Tryd.underlying28 ?_ ?_ ?_); rfl; rfl; kernel_rfl)
    | (go_at_call 21; refine (HS22.out).mono ?_; rintro e w9 ⟨b9, A2, c2, gs2, rfl, rg2, st2⟩))
  have bw9 := bwa.trans (b9.mono bwa.size)
  replace rg1 := rg1.below b9
  replace st1 := st1.below b9
  have hn1 : gs1.length = N := st1.1.trans Kl.out
  have hn2 : gs2.length = N := st2.1.trans Ll.out
  clear HS22 a13a b9 bwa
  replace hn1 := Lib.hid hn1
  replace hn2 := Lib.hid hn2
  go_wp2
  go_loopw [21, 22, 23] (fun s _ _ wr => ∃ j : Nat, j ≤ N ∧ s = .int .i64 (j : Int) ∧ Hid (qFst (K.drop j) (L.drop j) = ans) ∧ Below w9.heap.size w9 wr) (fun s _ _ _ => N - (intOf s).toNat)
  case atStart => exact ⟨0, Nat.zero_le _, rfl, Lib.hid (by rw [hans.out]; rfl), Below.refl _ _⟩
  case round =>
    obtain ⟨j, hj, rfl, hd, bwr⟩ := hrel
    by_cases hlt : j < N
    · have u1 : decide ((j : Int) < (N : Int)) = true := by simp; omega
      have n0 : 0 ≤ (j : Int) := by omega
      have n1 : (j : Int) < (N : Int) := by omega
      obtain ⟨G1, hG1⟩ : ∃ G1, gs1[j]? = some G1 := ⟨_, List.getElem?_eq_getElem (by rw [hn1.out]; exact hlt)⟩
      obtain ⟨G2, hG2⟩ : ∃ G2, gs2[j]? = some G2 := ⟨_, List.getElem?_eq_getElem (by rw [hn2.out]; exact hlt)⟩
      have hjK : j < K.length := by rw [Kl.out]; exact hlt
      have hjL : j < L.length := by rw [Ll.out]; exact hlt
      obtain ⟨k1, hk1⟩ : ∃ k1, K[j]? = some k1 := ⟨_, List.getElem?_eq_getElem hjK⟩
      obtain ⟨l1, hl1⟩ : ∃ l1, L[j]? = some l1 := ⟨_, List.getElem?_eq_getElem hjL⟩
      have k64 := K64.out k1 (List.mem_of_getElem? hk1)
      have l64 := L64.out l1 (List.mem_of_getElem? hl1)
      have hd2 : qFst (K.drop j) (L.drop j) = if dblB k1 = dblB l1 then some (k1, l1) else qFst (K.drop (j + 1)) (L.drop (j + 1)) := by
        rw [List.drop_eq_getElem_cons hjK, List.drop_eq_getElem_cons hjL, (List.getElem?_eq_some_iff.1 hk1).2, (List.getElem?_eq_some_iff.1 hl1).2, qFst]
      rw [hd.out] at hd2
      obtain ⟨g1, d1⟩ := G1
      obtain ⟨g2, d2⟩ := G2
      have e1 := tgc_get hG1
      have e2 := tgc_get hG2
      obtain ⟨b1, o1, rfl⟩ := rg1.someA (by intro e; rw [e] at e1; cases e1)
      obtain ⟨b2, o2, rfl⟩ := rg2.someA (by intro e; rw [e] at e2; cases e2)
      have hc1 : ∀ w', Rd w' (some ⟨b1, o1, none⟩) (tgc gs1) → w'.cell? ⟨b1, o1 + j, none⟩ = some (.slice (some ⟨g1, 0, none⟩) 64 d1) := by
        intro w' h
        rcases h with h | ⟨b', o', hA', hc⟩
        · rw [h] at e1; cases e1
        · cases hA'; exact hc j _ e1
      have hc2 : ∀ w', Rd w' (some ⟨b2, o2, none⟩) (tgc gs2) → w'.cell? ⟨b2, o2 + j, none⟩ = some (.slice (some ⟨g2, 0, none⟩) 64 d2) := by
        intro w' h
        rcases h with h | ⟨b', o', hA', hc⟩
        · rw [h] at e2; cases e2
        · cases hA'; exact hc j _ e2
      have ag1 := (st1.below bwr).rd hG1 hk1
      have ag2 := (st2.below bwr).rd hG2 hl1
      have ra1 := rg1.below bwr
      have ra2 := rg2.below bwr
      have bwr2 := bw9.trans (bwr.mono bw9.size)
      have HD1 := fun w' r => DoubleR k1 (some ⟨g1, 0, none⟩) 64 d1 k64 (by omega) w' r
      have HD2 := fun w' r => DoubleR l1 (some ⟨g2, 0, none⟩) 64 d2 l64 (by omega) w' r
      have HS1 := fun w' r => SumR k1 (some ⟨g1, 0, none⟩) 64 d1 k64 (by omega) w' r
      have HS2 := fun w' r => SumR l1 (some ⟨g2, 0, none⟩) 64 d2 l64 (by omega) w' r
      have z1l := dblB_length k1
      have z2l := dblB_length l1
      have s1l := sumB_length k1
      have s2l := sumB_length l1
      have hwt : qWit (k1, l1) = if sumB k1 = sumB l1 then (k1, l1) else (sumB k1, sumB l1) := rfl
      obtain ⟨z1, hz1⟩ : ∃ z, z = dblB k1 := ⟨_, rfl⟩
      obtain ⟨z2, hz2⟩ : ∃ z, z = dblB l1 := ⟨_, rfl⟩
      obtain ⟨y1, hy1⟩ : ∃ z, z = sumB k1 := ⟨_, rfl⟩
      obtain ⟨y2, hy2⟩ : ∃ z, z = sumB l1 := ⟨_, rfl⟩
      rw [← hz1] at hd2 HD1 z1l
      rw [← hz2] at hd2 HD2 z2l
      rw [← hy1] at HS1 s1l hwt
      rw [← hy2] at HS2 s2l hwt
      have E4 := fun p q w => eqlHw z1 z2 z1l z2l p q w
      have E5 := fun p q w => eqlHw y1 y2 s1l s2l p q w
      have s132 : (y1.map bv).length = 32 := by rw [List.length_map, s1l]
      have s232 : (y2.map bv).length = 32 := by rw [List.length_map, s2l]
      have s1one : (y1.map bv).all (·.oneCell') = true := List.all_eq_true.2 (bv_one _)
      have s2one : (y2.map bv).all (·.oneCell') = true := List.all_eq_true.2 (bv_one _)
      clear hd e1 e2 hjK hjL hG1 hG2 hk1 hl1
      replace hz1 := Lib.hid hz1
      replace hz2 := Lib.hid hz2
      replace hy1 := Lib.hid hy1
      replace hy2 := Lib.hid hy2
      replace z1l := Lib.hid z1l
      replace z2l := Lib.hid z2l
      replace s1l := Lib.hid s1l
      replace s2l := Lib.hid s2l
      replace hwt := Lib.hid hwt
      replace hd2 := Lib.hid hd2
      replace hc1 := Lib.hid hc1
      replace hc2 := Lib.hid hc2
      replace HD1 := Lib.hid HD1
      replace HD2 := Lib.hid HD2
      replace HS1 := Lib.hid HS1
      replace HS2 := Lib.hid HS2
      replace k64 := Lib.hid k64
      replace l64 := Lib.hid l64
      replace s132 := Lib.hid s132
      replace s232 := Lib.hid s232
      replace s1one := Lib.hid s1one
      replace s2one := Lib.hid s2one
      obtain ⟨E, hE⟩ : ∃ E, E = (z1 == z2) := ⟨_, rfl⟩
      rw [← hE] at E4
      replace hE := Lib.hid hE
      replace E4 := Lib.hid E4
      replace E5 := Lib.hid E5
      go_upto_region 12 with fail
      refine wp_region_rel [] Ext (by kernel_rfl) (by kernel_rfl) (by kernel_rfl) Ext.refl Ext.trans (by intro p hp; cases hp) ?_
      refine relMove Ext.refl rfl rfl rfl rfl _ (.inl rfl) (by conv => lhs; whnf) (by simp only [List.set_cons_succ, List.set_cons_zero]; rfl) ?_
      refine relMove Ext.refl rfl rfl rfl rfl _ (.inl rfl) (by conv => lhs; whnf) (by simp only [List.set_cons_succ, List.set_cons_zero]; rfl) ?_
      refine relPure Ext.refl rfl rfl rfl rfl (c := .pointer (some ⟨b1, o1 + j, none⟩)) (fun w _ => by go_simp; first | done | rfl) (by simp only [List.set_cons_succ, List.set_cons_zero]; rfl) ?_
      refine relPure Ext.refl rfl rfl rfl rfl (c := .slice (some ⟨g1, 0, none⟩) 64 d1) (fun w hw => by have := hc1.out _ (ra1.below hw.drew); go_simp; first | done | rfl) (by simp only [List.set_cons_succ, List.set_cons_zero]; rfl) ?_
      refine relCall1 rfl rfl rfl rfl (c := .agg (hcs z1)) 37 #[.slice (some ⟨g1, 0, none⟩) 64 d1] (fun w => by go_simp) (fun w hw => (HD1.out w (ag1.below hw.drew)).mono ?_) (by simp only [List.set_cons_succ, List.set_cons_zero]; rfl) ?_
      · rintro e w' ⟨rfl, b⟩
        exact ⟨rfl, b⟩
      refine relMove Ext.refl rfl rfl rfl rfl _ (.inl rfl) (by conv => lhs; whnf) (by simp only [List.set_cons_succ, List.set_cons_zero]; rfl) ?_
      refine relMove Ext.refl rfl rfl rfl rfl _ (.inl rfl) (by conv => lhs; whnf) (by simp only [List.set_cons_succ, List.set_cons_zero]; rfl) ?_
      refine relPure Ext.refl rfl rfl rfl rfl (c := .pointer (some ⟨b2, o2 + j, none⟩)) (fun w _ => by go_simp; first | done | rfl) (by simp only [List.set_cons_succ, List.set_cons_zero]; rfl) ?_
      refine relPure Ext.refl rfl rfl rfl rfl (c := .slice (some ⟨g2, 0, none⟩) 64 d2) (fun w hw => by have := hc2.out _ (ra2.below hw.drew); go_simp; first | done | rfl) (by simp only [List.set_cons_succ, List.set_cons_zero]; rfl) ?_
      refine relCall1 rfl rfl rfl rfl (c := .agg (hcs z2)) 37 #[.slice (some ⟨g2, 0, none⟩) 64 d2] (fun w => by go_simp) (fun w hw => (HD2.out w (ag2.below hw.drew)).mono ?_) (by simp only [List.set_cons_succ, List.set_cons_zero]; rfl) ?_
      · rintro e w' ⟨rfl, b⟩
        exact ⟨rfl, b⟩
      refine relBin Ext.refl rfl rfl rfl rfl .eql _ _ _ _ rfl (by conv => lhs; whnf) (by conv => lhs; whnf) (fun w => E4.out _ _ w) (by simp only [List.set_cons_succ, List.set_cons_zero]; rfl) ?_
      refine relEnd fun wb hwb => fill_end ?_
      have bb := hwb.drew
      have bwb := bwr.trans (bb.mono bwr.size)
      clear HD1 HD2
      cases E with
      | false =>
        have hne : ¬ z1 = z2 := fun h => by have := hE.out; rw [h] at this; simp at this
        have hd3 : qFst (K.drop (j + 1)) (L.drop (j + 1)) = ans := by rw [hd2.out, if_neg hne]
        clear hne
        replace hd3 := Lib.hid hd3
        go_wp2
        refine ⟨⟨j + 1, by omega, by go_num, hd3, bwb⟩, ?_⟩
        simp only [intOf]
        omega
      | true =>
        have heq : z1 = z2 := by have := hE.out; exact beq_iff_eq.1 this.symm
        have ha : ans = some (k1, l1) := by rw [hd2.out, if_pos heq]
        clear heq
        replace ha := Lib.hid ha
        replace ag1 := ag1.below bb
        replace ag2 := ag2.below bb
        replace ra1 := ra1.below bb
        replace ra2 := ra2.below bb
        replace bwr2 := bwr2.trans (bb.mono bwr2.size)
        have q1 := hc1.out wb ra1
        have HS13 := Lib.hid (HS1.out wb ag1)
        clear bwb HS1
        go_upto_region 14 with (first
          | (go_at_call 38; refine (HS13.out).mono ?_; rintro e wc ⟨rfl, bc⟩)
          | ((with_reducible refine wpList_storeF 28 ((Below.refl wc.heap.size wc).alloc (Nat.le_refl _) _) (heap_alloc_new _ _) (Nat.le_refl _) (y1.map bv) ?_ ?_ 32 s132.out ?_ ?_ ?_ ?_); rfl; rfl; kernel_rfl; rfl; exact s1one.out; intro wd ad bd kd zd))
        have bbd := bc.trans (bd.mono bc.size)
        obtain ⟨g, hg⟩ : ∃ g, g = wc.heap.size := ⟨_, rfl⟩
        rw [← hg] at ad ⊢
        replace hg := Lib.hid hg
        replace ag1 := ag1.below bbd
        replace ag2 := ag2.below bbd
        replace ra1 := ra1.below bbd
        replace ra2 := ra2.below bbd
        replace bwr2 := bwr2.trans (bbd.mono bwr2.size)
        have q2 := hc2.out wd ra2
        have HS23 := Lib.hid (HS2.out wd ag2)
        clear q1 HS13 HS2 bc bd kd zd bbd
        go_upto_region 15 with (first
          | (go_at_call 38; refine (HS23.out).mono ?_; rintro e we ⟨rfl, be⟩)
          | ((with_reducible refine wpList_storeF 28 ((Below.refl we.heap.size we).alloc (Nat.le_refl _) _) (heap_alloc_new _ _) (Nat.le_refl _) (y2.map bv) ?_ ?_ 32 s232.out ?_ ?_ ?_ ?_); rfl; rfl; kernel_rfl; rfl; exact s2one.out; intro wf af bf kf zf))
        have bef := be.trans (bf.mono be.size)
        obtain ⟨q, hq⟩ : ∃ q, q = we.heap.size := ⟨_, rfl⟩
        rw [← hq] at af ⊢
        replace hq := Lib.hid hq
        replace ad := ad.below bef
        replace ag1 := ag1.below bef
        replace ag2 := ag2.below bef
        replace ra1 := ra1.below bef
        replace ra2 := ra2.below bef
        replace bwr2 := bwr2.trans (bef.mono bwr2.size)
        clear q2 HS23 be bf kf zf bef
        obtain ⟨F, hF⟩ : ∃ F, F = (y1 == y2) := ⟨_, rfl⟩
        replace E5 := E5.out
        rw [← hF] at E5
        replace hF := Lib.hid hF
        replace E5 := Lib.hid E5
        cases F with
        | true =>
          go_step
          refine wpList_loadF 28 ad ?_ _ 32 s132.out Tryd.underlying28 ?_ ?_ ?_
          · rfl
          · rfl
          · kernel_rfl
          refine wpList_loadF 28 af ?_ _ 32 s232.out Tryd.underlying28 ?_ ?_ ?_
          · rfl
          · rfl
          · kernel_rfl
          refine wpList_binG (op := .eql) (ty := 28) ?_ ?_ ?_ (E5.out _ _ wf) ?_
          · rfl
          · rfl
          · rfl
          dsimp only [Act.put]
          simp only [List.setIfInBounds_toArray, List.set_cons_succ, List.set_cons_zero]
          go_upto_region 16 with fail
          refine wp_region_rel [] Ext (by kernel_rfl) (by kernel_rfl) (by kernel_rfl) Ext.refl Ext.trans (by intro p hp; cases hp) ?_
          refine relMove Ext.refl rfl rfl rfl rfl _ (.inl rfl) (by conv => lhs; whnf) (by simp only [List.set_cons_succ, List.set_cons_zero]; rfl) ?_
          refine relMove Ext.refl rfl rfl rfl rfl _ (.inl rfl) (by conv => lhs; whnf) (by simp only [List.set_cons_succ, List.set_cons_zero]; rfl) ?_
          refine relPure Ext.refl rfl rfl rfl rfl (c := .pointer (some ⟨b1, o1 + j, none⟩)) (fun w _ => by go_simp; first | done | rfl) (by simp only [List.set_cons_succ, List.set_cons_zero]; rfl) ?_
          refine relPure Ext.refl rfl rfl rfl rfl (c := .slice (some ⟨g1, 0, none⟩) 64 d1) (fun w hw => by have := hc1.out _ (ra1.below hw.drew); go_simp; first | done | rfl) (by simp only [List.set_cons_succ, List.set_cons_zero]; rfl) ?_
          refine relMove Ext.refl rfl rfl rfl rfl _ (.inl rfl) (by conv => lhs; whnf) (by simp only [List.set_cons_succ, List.set_cons_zero]; rfl) ?_
          refine relMove Ext.refl rfl rfl rfl rfl _ (.inl rfl) (by conv => lhs; whnf) (by simp only [List.set_cons_succ, List.set_cons_zero]; rfl) ?_
          refine relPure Ext.refl rfl rfl rfl rfl (c := .pointer (some ⟨b2, o2 + j, none⟩)) (fun w _ => by go_simp; first | done | rfl) (by simp only [List.set_cons_succ, List.set_cons_zero]; rfl) ?_
          refine relPure Ext.refl rfl rfl rfl rfl (c := .slice (some ⟨g2, 0, none⟩) 64 d2) (fun w hw => by have := hc2.out _ (ra2.below hw.drew); go_simp; first | done | rfl) (by simp only [List.set_cons_succ, List.set_cons_zero]; rfl) ?_
          refine relMove Ext.refl rfl rfl rfl rfl _ (.inr rfl) (by conv => lhs; whnf) (by simp only [List.set_cons_succ, List.set_cons_zero]; rfl) ?_
          refine relMove Ext.refl rfl rfl rfl rfl _ (.inr rfl) (by conv => lhs; whnf) (by simp only [List.set_cons_succ, List.set_cons_zero]; rfl) ?_
          refine relMove Ext.refl rfl rfl rfl rfl _ (.inr rfl) (by conv => lhs; whnf) (by simp only [List.set_cons_succ, List.set_cons_zero]; rfl) ?_
          refine relEnd fun wg hwg => fill_end ?_
          have bwg := bwr2.trans (hwg.drew.mono bwr2.size)
          have rd1 := ag1.below hwg.drew
          have rd2 := ag2.below hwg.drew
          have hwit : qWit (k1, l1) = (k1, l1) := hwt.out.trans (if_pos (beq_iff_eq.1 hF.out.symm))
          replace hwit := Lib.hid hwit
          go_wp2
          go_ret3
          rw [ha.out]
          rw [Option.map_some, hwit.out]
          exact ⟨bwg, _, d1, _, d2, by rw [k64.out, l64.out]; rfl, rd1, rd2⟩
        | false =>
          go_step
          refine wpList_loadF 28 ad ?_ _ 32 s132.out Tryd.underlying28 ?_ ?_ ?_
          · rfl
          · rfl
          · kernel_rfl
          refine wpList_loadF 28 af ?_ _ 32 s232.out Tryd.underlying28 ?_ ?_ ?_
          · rfl
          · rfl
          · kernel_rfl
          refine wpList_binG (op := .eql) (ty := 28) ?_ ?_ ?_ (E5.out _ _ wf) ?_
          · rfl
          · rfl
          · rfl
          dsimp only [Act.put]
          simp only [List.setIfInBounds_toArray, List.set_cons_succ, List.set_cons_zero]
          go_upto_region 17 with fail
          refine wp_region_rel [(0, (fun v _ => ∃ g, v = .slice (some ⟨g, 0, none⟩) 0 0)), (2, SlW y1), (3, (fun v _ => ∃ g, v = .slice (some ⟨g, 0, none⟩) 0 0)), (5, SlW y2), (6, SlW y1), (7, SlW y2)] Ext (by kernel_rfl) (by kernel_rfl) (by kernel_rfl) Ext.refl Ext.trans (by
            intro p hp v w w' hR
            simp only [List.mem_cons, List.not_mem_nil, or_false] at hp
            rcases hp with rfl | rfl | rfl | rfl | rfl | rfl
            · exact id
            · exact SlW.mono hR
            · exact id
            · exact SlW.mono hR
            · exact SlW.mono hR
            · exact SlW.mono hR) ?_
          refine relWord _ rfl (fun w hw => fill_none rfl (relOp_yes rfl ?_)) ?_
          · go_simp
            exact ⟨(Below.refl _ _).alloc (Nat.le_refl _) _, _, rfl⟩
          refine relPure Ext.refl rfl rfl rfl rfl (c := .slice (some ⟨g, 0, none⟩) 32 32) (fun w _ => by go_simp; first | done | rfl) (by simp only [List.set_cons_succ, List.set_cons_zero]; rfl) ?_
          refine relWord _ rfl (fun w hw => fill_take rfl rfl fun u hu => fill_none rfl (relOp_yes rfl ?_)) ?_
          · obtain ⟨gg, rfl⟩ := hu
            exact rel_app0 w _ _ rfl ⟨gg, 0, none⟩ rfl ⟨g, 0, none⟩ 32 32 y1 rfl s1l.out (by omega) (by omega) (ad.below hw.drew).rd
          refine relWord _ rfl (fun w hw => fill_none rfl (relOp_yes rfl ?_)) ?_
          · go_simp
            exact ⟨(Below.refl _ _).alloc (Nat.le_refl _) _, _, rfl⟩
          refine relPure Ext.refl rfl rfl rfl rfl (c := .slice (some ⟨q, 0, none⟩) 32 32) (fun w _ => by go_simp; first | done | rfl) (by simp only [List.set_cons_succ, List.set_cons_zero]; rfl) ?_
          refine relWord _ rfl (fun w hw => fill_skip rfl (fill_skip rfl (fill_take rfl rfl fun u hu => fill_none rfl (relOp_yes rfl ?_)))) ?_
          · obtain ⟨gg, rfl⟩ := hu
            exact rel_app0 w _ _ rfl ⟨gg, 0, none⟩ rfl ⟨q, 0, none⟩ 32 32 y2 rfl s2l.out (by omega) (by omega) (af.below hw.drew).rd
          refine relWord _ rfl (fun w hw => fill_skip rfl (fill_take rfl rfl fun u hu => fill_none rfl (relOp_yes rfl ?_))) ?_
          · go_simp
            exact ⟨Ext.refl _, hu⟩
          refine relWord _ rfl (fun w hw => fill_skip rfl (fill_skip rfl (fill_skip rfl (fill_take rfl rfl fun u hu => fill_none rfl (relOp_yes rfl ?_))))) ?_
          · go_simp
            exact ⟨Ext.refl _, hu⟩
          refine relMove Ext.refl rfl rfl rfl rfl _ (.inr rfl) (by conv => lhs; whnf) (by simp only [List.set_cons_succ, List.set_cons_zero]; rfl) ?_
          refine relEnd fun wg hwg => fill_take rfl rfl fun v0 h0 => fill_take rfl rfl fun v2 h2 => fill_take rfl rfl fun v3 h3 => fill_take rfl rfl fun v5 h5 => fill_take rfl rfl fun v6 h6 => fill_take rfl rfl fun v7 h7 => fill_end ?_
          obtain ⟨_, rfl⟩ := h0
          obtain ⟨_, rfl⟩ := h3
          obtain ⟨_, _, rfl, -⟩ := h2
          obtain ⟨_, _, rfl, -⟩ := h5
          obtain ⟨A6, c6, rfl, rd6⟩ := h6
          obtain ⟨A7, c7, rfl, rd7⟩ := h7
          simp only [List.set_cons_succ, List.set_cons_zero]
          have bwg := bwr2.trans (hwg.drew.mono bwr2.size)
          have hwit : qWit (k1, l1) = (y1, y2) := hwt.out.trans (if_neg (beq_eq_false_iff_ne.1 hF.out.symm))
          replace hwit := Lib.hid hwit
          go_wp2
          go_ret3
          rw [ha.out]
          rw [Option.map_some, hwit.out]
          exact ⟨bwg, A6, c6, A7, c7, rfl, rd6, rd7⟩
    · obtain rfl : j = N := by omega
      have u1 : decide ((j : Int) < (j : Int)) = false := by simp
      have ha : ans = none := by
        rw [← hd.out, List.drop_of_length_le (by rw [Kl.out]; exact Nat.le_refl _)]
        rfl
      replace ha := Lib.hid ha
      clear hd
      have bwr2 := bw9.trans (bwr.mono bw9.size)
      go_wp2
      go_ret3
      rw [ha.out]
      exact ⟨bwr2, rfl⟩
theorem ClashR (fl1 : List UInt8) (hs1 : List (List UInt8)) (g32 : All32 hs1) (tot1 : Nat) (Ah1 : Option Addr) (nh1 ch1 : Nat) (Af1 : Option Addr) (nf1 cf1 : Nat) (hnh1 : hs1.length = nh1) (hnf1 : fl1.length = nf1) (ht1 : tot1 < 4294967296) (hnf12 : nf1 ≤ 10000) (hnh12 : nh1 ≤ 10000)
    (fl2 : List UInt8) (hs2 : List (List UInt8)) (k32 : All32 hs2) (tot2 : Nat) (Ah2 : Option Addr) (nh2 ch2 : Nat) (Af2 : Option Addr) (nf2 cf2 : Nat) (hnh2 : hs2.length = nh2) (hnf2 : fl2.length = nf2) (ht2 : tot2 < 4294967296) (hnf22 : nf2 ≤ 10000) (hnh22 : nh2 ≤ 10000)
    (pos : Int) (w : World) (hrh1 : Rd w Ah1 (hcl hs1)) (hrf1 : Rd w Af1 (fl1.map bv)) (hrh2 : Rd w Ah2 (hcl hs2)) (hrf2 : Rd w Af2 (fl2.map bv)) :
    Calls Tryd.prog 15 #[.agg (trc tot1 Ah1 nh1 ch1 Af1 nf1 cf1).toArray, .agg (trc tot2 Ah2 nh2 ch2 Af2 nf2 cf2).toArray, .int .i64 pos] w (ClashPostR w (qClash tot1 hs1 fl1 tot2 hs2 fl2 pos)) := by
  obtain ⟨e1, e2⟩ := fndR_32 (tot := tot1) (fl := fl1) (pos := pos) g32
  obtain ⟨e3, e4⟩ := fndR_32 (tot := tot2) (fl := fl2) (pos := pos) k32
  have NO := ClashR_no fl1 hs1 g32 tot1 Ah1 nh1 ch1 Af1 nf1 cf1 hnh1 hnf1 ht1 hnf12 hnh12 fl2 hs2 k32 tot2 Ah2 nh2 ch2 Af2 nf2 cf2 hnh2 hnf2 ht2 hnf22 hnh22 pos w _ _ _ _ (fndR (qRt (pExt tot1 hs1 fl1)) (qFnd tot1 hs1 fl1 pos)).2.2 (fndR (qRt (pExt tot2 hs2 fl2)) (qFnd tot2 hs2 fl2 pos)).2.2 e1 e2 e3 e4
    (fun w' b => FindRH fl1 hs1 g32 tot1 Ah1 nh1 ch1 Af1 nf1 cf1 hnh1 hnf1 ht1 hnf12 hnh12 pos w' (hrh1.below b) (hrf1.below b) _ rfl)
    (fun w' b => FindRH fl2 hs2 k32 tot2 Ah2 nh2 ch2 Af2 nf2 cf2 hnh2 hnf2 ht2 hnf22 hnh22 pos w' (hrh2.below b) (hrf2.below b) _ rfl)
  unfold qClash
  cases hq1 : qFnd tot1 hs1 fl1 pos with
  | none =>
    rw [hq1] at NO
    exact NO (.inl rfl)
  | some a =>
    cases hq2 : qFnd tot2 hs2 fl2 pos with
    | none =>
      rw [hq1, hq2] at NO
      exact NO (.inr (.inl ⟨rfl, rfl⟩))
    | some b =>
      rw [hq1, hq2] at NO
      rw [Option.bind_some, Option.bind_some]
      by_cases h1 : a.1 = b.1
      · by_cases h2 : tot1 = tot2
        · by_cases h3 : a.2 = b.2
          · rw [if_neg (fun h => h.2.2 h3)]
            exact NO (.inr (.inr (.inr (.inr ⟨rfl, rfl, beq_iff_eq.2 h1, h2, beq_iff_eq.2 h3⟩))))
          · rw [if_pos ⟨h1, h2, h3⟩]
            exact ClashR_go fl1 hs1 g32 tot1 Ah1 nh1 ch1 Af1 nf1 cf1 hnh1 hnf1 ht1 hnf12 hnh12 fl2 hs2 k32 tot2 Ah2 nh2 ch2 Af2 nf2 cf2 hnh2 hnf2 ht2 hnf22 hnh22 h2 pos w hrh1 hrf1 hrh2 hrf2 a.1 a.2 b.1 b.2 hq1 hq2 (beq_iff_eq.2 h1) (beq_eq_false_iff_ne.2 h3)
        · rw [if_neg (fun h => h2 h.2.1)]
          exact NO (.inr (.inr (.inr (.inl ⟨rfl, rfl, beq_iff_eq.2 h1, h2⟩))))
      · rw [if_neg (fun h => h1 h.1)]
        exact NO (.inr (.inr (.inl ⟨rfl, rfl, beq_eq_false_iff_ne.2 h1⟩)))
end Go.Proofs.YtdkknincamkhpaaDoor
