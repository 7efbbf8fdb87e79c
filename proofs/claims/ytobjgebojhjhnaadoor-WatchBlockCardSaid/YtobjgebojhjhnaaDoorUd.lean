import Derived.Test.YtobjgebojhjhnaaDoorUa
namespace Go.Proofs.YtobjgebojhjhnaaDoor
open Go.RowKit
def dOft (a b i : Nat) : Nat := a / 2 ^ i / b * 2 ^ i
def dLft (a b i : Nat) : Nat := a / 2 ^ i % b
theorem dStep (a b i : Nat) (hb : 0 < b) (_ : b < 115792089237316195423570985008687907853269984665640564039457584007913129639936) :
  ∃ V, V = 2 * dLft a b (i + 1) + a / 2 ^ i % 2 ∧ V < 2 * b ∧
  (V < b → dLft a b i = V ∧ dOft a b i = dOft a b (i + 1)) ∧ (b ≤ V → dLft a b i = V - b ∧ dOft a b i = dOft a b (i + 1) + 2 ^ i) := by
 unfold dOft dLft
 obtain ⟨x, hx⟩ : ∃ x, x = a / 2 ^ i := ⟨_, rfl⟩
 have h1 : a / 2 ^ (i + 1) = x / 2 := by rw [Nat.pow_succ, ← Nat.div_div_eq_div_mul, hx]
 rw [h1, ← hx]
 obtain ⟨P, hP⟩ : ∃ P, P = 2 ^ i := ⟨_, rfl⟩
 rw [Nat.pow_succ, ← hP]
 have hy := Nat.div_add_mod (x / 2) b
 have hyl := Nat.mod_lt (x / 2) hb
 have hx2 := Nat.div_add_mod x 2
 generalize x / 2 / b = q at *
 generalize x / 2 % b = r at *
 have hm : x % 2 < 2 := Nat.mod_lt _ (by omega)
 generalize x % 2 = m at *
 have hxe : x = b * (2 * q) + (2 * r + m) := by
  rw [← hx2, ← hy, Nat.mul_add]
  have : 2 * (b * q) = b * (2 * q) := by rw [Nat.mul_left_comm]
  omega
 refine ⟨2 * r + m, rfl, by omega, fun h => ?_, fun h => ?_⟩
 ·have e1 : x / b = 2 * q := by rw [hxe, Nat.mul_add_div hb, Nat.div_eq_of_lt h, Nat.add_zero]
  have e2 : x % b = 2 * r + m := by rw [hxe, Nat.mul_add_mod, Nat.mod_eq_of_lt h]
  rw [e1, e2]
  refine ⟨rfl, ?_⟩
  rw [Nat.mul_comm 2 q, Nat.mul_assoc, Nat.mul_comm 2 P]
 ·have hxe2 : x = b * (2 * q + 1) + (2 * r + m - b) := by
   rw [hxe, Nat.mul_add, Nat.mul_one]; omega
  have e1 : x / b = 2 * q + 1 := by rw [hxe2, Nat.mul_add_div hb, Nat.div_eq_of_lt (show 2 * r + m - b < b by omega), Nat.add_zero]
  have e2 : x % b = 2 * r + m - b := by rw [hxe2, Nat.mul_add_mod, Nat.mod_eq_of_lt (show 2 * r + m - b < b by omega)]
  rw [e1, e2]
  refine ⟨rfl, ?_⟩
  rw [Nat.add_mul, Nat.one_mul, Nat.mul_comm 2 q, Nat.mul_assoc, Nat.mul_comm 2 P]
theorem dStart (a b n : Nat) (h : a < 2 ^ n) : dOft a b n = 0 ∧ dLft a b n = 0 := by
 unfold dOft dLft
 rw [Nat.div_eq_of_lt h]; simp
theorem dEnd (a b : Nat) : dOft a b 0 = a / b ∧ dLft a b 0 = a % b := by simp [dOft, dLft]
theorem dLft_lt (a b i : Nat) (hb : 0 < b) : dLft a b i < b := Nat.mod_lt _ hb
theorem dOft_dvd (a b i : Nat) : dOft a b i % 2 ^ i = 0 := Nat.mul_mod_left _ _
theorem lim_bit (n j k : Nat) : (lim n j).testBit k = (decide (k < 64) && n.testBit (64 * j + k)) := by
 unfold lim
 rw [show (18446744073709551616 : Nat) = 2 ^ 64 from by decide, ← Nat.pow_mul, Nat.testBit_mod_two_pow, Nat.testBit_div_two_pow]
 rw [Nat.add_comm]
theorem add_digit (n i : Nat) (h : n % 2 ^ (i + 1) = 0) : n + 2 ^ i = n ||| 2 ^ i := by
 have e := Nat.div_add_mod n (2 ^ (i + 1))
 rw [h, Nat.add_zero] at e
 rw [← e]
 exact Nat.two_pow_add_eq_or_of_lt (Nat.pow_lt_pow_right (by omega) (by omega)) _
theorem lim_set (n i : Nat) (h : n % 2 ^ (i + 1) = 0) (j : Nat) : lim (n + 2 ^ i) j = if j = i / 64 then lim n j ||| 2 ^ (i % 64) else lim n j := by
 apply Nat.eq_of_testBit_eq
 intro k
 rw [add_digit n i h, lim_bit, Nat.testBit_or, Nat.testBit_two_pow]
 split
 ·rename_i e
  subst e
  rw [Nat.testBit_or, lim_bit, Nat.testBit_two_pow]
  by_cases hk : k < 64
  ·have : (i = 64 * (i / 64) + k) ↔ (i % 64 = k) := by omega
   simp [hk, this]
  ·have : i % 64 ≠ k := by omega
   simp [hk, this]
 ·rw [lim_bit]
  by_cases hk : k < 64
  ·have : i ≠ 64 * j + k := by omega
   simp [hk, this]
  ·simp [hk]
theorem lim_get (n i : Nat) : lim n (i / 64) / 2 ^ (i % 64) % 2 = n / 2 ^ i % 2 := by
 have h := lim_bit n (i / 64) (i % 64)
 rw [Nat.testBit_eq_decide_div_mod_eq, Nat.testBit_eq_decide_div_mod_eq, show 64 * (i / 64) + i % 64 = i by omega] at h
 have h1 : i % 64 < 64 := Nat.mod_lt _ (by omega)
 simp only [h1, decide_true, Bool.true_and, decide_eq_decide] at h
 omega
theorem len4_spec (n : Nat) (h : n < 115792089237316195423570985008687907853269984665640564039457584007913129639936) : n < 2 ^ len4 (lim n 0) (lim n 1) (lim n 2) (lim n 3) ∧ len4 (lim n 0) (lim n 1) (lim n 2) (lim n 3) ≤ 256 := by
 have hs := lim_sum h
 have l0 := lim_lt n 0
 have l1 := lim_lt n 1
 have l2 := lim_lt n 2
 have l3 := lim_lt n 3
 generalize lim n 0 = x0 at *
 generalize lim n 1 = x1 at *
 generalize lim n 2 = x2 at *
 generalize lim n 3 = x3 at *
 have b0 := bitLen_hi _ _ l0 (Nat.le_refl _)
 have b1 := bitLen_hi _ _ l1 (Nat.le_refl _)
 have b2 := bitLen_hi _ _ l2 (Nat.le_refl _)
 have b3 := bitLen_hi _ _ l3 (Nat.le_refl _)
 have c0 := bitLen_64 l0
 have c1 := bitLen_64 l1
 have c2 := bitLen_64 l2
 have c3 := bitLen_64 l3
 unfold len4
 by_cases h3 : x3 = 0
 ·by_cases h2 : x2 = 0
  ·by_cases h1 : x1 = 0
   ·rw [if_neg (by simp [h3]), if_neg (by simp [h2]), if_neg (by simp [h1])]
    exact ⟨by omega, by omega⟩
   ·rw [if_neg (by simp [h3]), if_neg (by simp [h2]), if_pos h1, Nat.pow_add, show (2 ^ 64 : Nat) = 18446744073709551616 from by decide]
    exact ⟨by omega, by omega⟩
  ·rw [if_neg (by simp [h3]), if_pos h2, Nat.pow_add, show (2 ^ 128 : Nat) = 340282366920938463463374607431768211456 from by decide]
   exact ⟨by omega, by omega⟩
 ·rw [if_pos h3, Nat.pow_add, show (2 ^ 192 : Nat) = 6277101735386680763835789423207666416102355444464034512896 from by decide]
  exact ⟨by omega, by omega⟩
theorem uc_or (D t : Nat) (hD : D % 2 = 0) (ht : t < 2) : (uc D).set 0 (.int .u64 ((lim D 0 ||| t : Nat) : Int)) = uc (D + t) := by
 have h : t = 0 ∨ t = 1 := by omega
 rcases h with rfl | rfl
 ·simp [uc, uq4]
 ·have h := fun j => lim_set D 0 (by simpa using hD) j
  simp only [Nat.pow_zero, Nat.zero_div, Nat.zero_mod] at h
  simp [uc, uq4, h]
theorem uc_digit (Q k : Nat) (hQ : Q % 2 ^ (k + 1) = 0) (hk : k < 256) : (uc Q).set (k / 64) (.int .u64 ((lim Q (k / 64) ||| 2 ^ (k % 64) : Nat) : Int)) = uc (Q + 2 ^ k) := by
 have h := fun j => lim_set Q k hQ j
 have hj : k / 64 = 0 ∨ k / 64 = 1 ∨ k / 64 = 2 ∨ k / 64 = 3 := by omega
 rcases hj with e | e | e | e <;> rw [e] at h ⊢ <;> simp [uc, uq4, h]
theorem results_cell22 {fn : Func} {p q u : Tmp} {ty : TypeId} (h : fn.results = #[.cell p ty, .cell q ty, .tmp u]) {tmps : Array Value} {P : Program} {w : World} {g g' : Nat} {t t' : TypeId} {C C' : List Value} (hp : tmps.getD p undef = .pointer (some ⟨g, 0, none⟩)) (hq : tmps.getD q undef = .pointer (some ⟨g', 0, none⟩)) (ha : Av w g t C) (hb : Av w g' t' C') {d : TypeDesc} (hu : P.underlying ty = some d) (hd : d.isRow = true)
  (n : Nat) (hn : C.length = n) (hn' : C'.length = n) (hi : (P.info? ty).map (·.size) = some n) :
  (results fn tmps).run P w = .ok (.tuple #[.agg C.toArray, .agg C'.toArray, tmps.getD u undef]) w := by
 simp only [results, h]
 simp only [Array.getD_eq_getD_getElem?] at hp hq ⊢
 simp [hp, hq, asAddr, run_loadVar_row w g t ty _ _ d ha hu (by cases d <;> first | rfl | (simp [TypeDesc.isRow] at hd)) (by rw [List.size_toArray, hn]; exact hi), run_loadVar_row w g' t' ty _ _ d hb hu (by cases d <;> first | rfl | (simp [TypeDesc.isRow] at hd)) (by rw [List.size_toArray, hn']; exact hi), Result.andThen]
structure Dv (w : World) (H : Nat) (x y q l : List Value) : Prop where
 v0 : Av w H 139 x
 v1 : Av w (H + 1) 139 y
 v2 : Av w (H + 2) 139 (uq4 0 0 0 0)
 v3 : Av w (H + 3) 139 (uq4 0 0 0 0)
 v4 : Av w (H + 4) 139 q
 v5 : Av w (H + 5) 139 l
theorem Dv.below {w w' : World} {H : Nat} {x y q l : List Value} (h : Dv w H x y q l) (b : Below w.heap.size w w') : Dv w' H x y q l :=
 ⟨h.v0.below b, h.v1.below b, h.v2.below b, h.v3.below b, h.v4.below b, h.v5.below b⟩
theorem Dv.put5 {w w' : World} {H : Nat} {x y q l l' : List Value} (h : Dv w H x y q l) (k : ∀ j, j ≠ H + 5 → w'.heap[j]? = w.heap[j]?) (a : Av w' (H + 5) 139 l') : Dv w' H x y q l' :=
 ⟨h.v0.same (k _ (by omega)), h.v1.same (k _ (by omega)), h.v2.same (k _ (by omega)), h.v3.same (k _ (by omega)), h.v4.same (k _ (by omega)), a⟩
theorem Dv.fr5 {w w' : World} {H : Nat} {x y q l l' : List Value} (h : Dv w H x y q l) (k : Fr (fun j => j = H + 5) w w') (a : Av w' (H + 5) 139 l') : Dv w' H x y q l' :=
 ⟨k.av h.v0 (by omega), k.av h.v1 (by omega), k.av h.v2 (by omega), k.av h.v3 (by omega), k.av h.v4 (by omega), a⟩
theorem Dv.fr4 {w w' : World} {H : Nat} {x y q l q' : List Value} (h : Dv w H x y q l) (k : Fr (fun j => j = H + 4) w w') (a : Av w' (H + 4) 139 q') : Dv w' H x y q' l :=
 ⟨k.av h.v0 (by omega), k.av h.v1 (by omega), k.av h.v2 (by omega), k.av h.v3 (by omega), a, k.av h.v5 (by omega)⟩
set_option maxRecDepth 100000 in
set_option maxHeartbeats 8000000 in
theorem UDiv (a b : Nat) (ha : a < 115792089237316195423570985008687907853269984665640564039457584007913129639936) (hb : b < 115792089237316195423570985008687907853269984665640564039457584007913129639936) (hb0 : 0 < b) (w : World) :
  Calls Tryd.prog 82 #[.agg (uc a).toArray, .agg (uc b).toArray] w fun e w' => e = .returned (.tuple #[.agg (uc (a / b)).toArray, .agg (uc (a % b)).toArray, .bool true]) ∧ Below w.heap.size w w' := by
 obtain ⟨W, hW⟩ : ∃ W, W = ((((w.alloc (.cells (uc a).toArray 139)).alloc (.cells (uc b).toArray 139)).alloc (.cells #[.int .u64 0, .int .u64 0, .int .u64 0, .int .u64 0] 139)).alloc (.cells #[.int .u64 0, .int .u64 0, .int .u64 0, .int .u64 0] 139)) := ⟨_, rfl⟩
 obtain ⟨H, hH⟩ : ∃ H, H = w.heap.size := ⟨_, rfl⟩
 have e : ∀ (v : World) (o : Obj), (v.alloc o).heap.size = v.heap.size + 1 := fun v o => by simp
 have bW : Below w.heap.size w W := by rw [hW]; exact ((((Below.refl _ _).alloc (Nat.le_refl _) _).alloc (by simp) _).alloc (by simp; omega) _).alloc (by simp; omega) _
 have aA : Av W H 139 (uc a) := by rw [hW, hH]; exact Av.alloc (Av.alloc (heap_alloc2_old _ _ _) _) _
 have aB : Av W (H + 1) 139 (uc b) := by rw [hW, hH]; exact Av.alloc (Av.alloc (heap_alloc2_new _ _ _) _) _
 have aR : Av W (H + 2) 139 (uq4 0 0 0 0) := by
  have q := heap_alloc_new ((w.alloc (.cells (uc a).toArray 139)).alloc (.cells (uc b).toArray 139)) (.cells #[.int .u64 0, .int .u64 0, .int .u64 0, .int .u64 0] 139)
  rw [e, e] at q
  rw [hW, hH]; exact Av.alloc q _
 have aS : Av W (H + 3) 139 (uq4 0 0 0 0) := by
  have q := heap_alloc_new (((w.alloc (.cells (uc a).toArray 139)).alloc (.cells (uc b).toArray 139)).alloc (.cells #[.int .u64 0, .int .u64 0, .int .u64 0, .int .u64 0] 139)) (.cells #[.int .u64 0, .int .u64 0, .int .u64 0, .int .u64 0] 139)
  rw [e, e, e] at q
  rw [hW, hH]; exact q
 have hWs : W.heap.size = H + 4 := by rw [hW, hH]; simp
 have HZ := fun x y w => eqlZ b x y w hb
 rw [decide_eq_false (Nat.ne_of_gt hb0)] at HZ
 obtain ⟨N, hN⟩ : ∃ N, N = len4 (lim a 0) (lim a 1) (lim a 2) (lim a 3) := ⟨_, rfl⟩
 have HL := ULen4 (lim a 0) (lim a 1) (lim a 2) (lim a 3) (lim_lt _ _) (lim_lt _ _) (lim_lt _ _) (lim_lt _ _)
 rw [← hN] at HL
 obtain ⟨hN1, hN2⟩ := len4_spec a ha
 rw [← hN] at hN1 hN2
 have HA := fun x hx => UAdd x x hx hx
 have HC := fun x hx => UCmp x b hx hb
 have HS := fun x hx => USub x b hx hb
 obtain ⟨W2, hW2⟩ : ∃ W2, W2 = ((W.alloc (.cells #[.int .u64 0, .int .u64 0, .int .u64 0, .int .u64 0] 139)).alloc (.cells #[.int .u64 0, .int .u64 0, .int .u64 0, .int .u64 0] 139)) := ⟨_, rfl⟩
 have bW2 : Below w.heap.size w W2 := by rw [hW2]; exact (bW.alloc (bW.size) _).alloc (by simp; have := bW.size; omega) _
 have aA := Av.alloc (Av.alloc aA (.cells #[.int .u64 0, .int .u64 0, .int .u64 0, .int .u64 0] 139)) (.cells #[.int .u64 0, .int .u64 0, .int .u64 0, .int .u64 0] 139)
 have aB2 := Av.alloc (Av.alloc aB (.cells #[.int .u64 0, .int .u64 0, .int .u64 0, .int .u64 0] 139)) (.cells #[.int .u64 0, .int .u64 0, .int .u64 0, .int .u64 0] 139)
 have aR := Av.alloc (Av.alloc aR (.cells #[.int .u64 0, .int .u64 0, .int .u64 0, .int .u64 0] 139)) (.cells #[.int .u64 0, .int .u64 0, .int .u64 0, .int .u64 0] 139)
 have aS := Av.alloc (Av.alloc aS (.cells #[.int .u64 0, .int .u64 0, .int .u64 0, .int .u64 0] 139)) (.cells #[.int .u64 0, .int .u64 0, .int .u64 0, .int .u64 0] 139)
 rw [← hW2] at aA aB2 aR aS
 have aO : Av W2 (H + 4) 139 (uq4 0 0 0 0) := by
  have q := heap_alloc2_old W (.cells #[.int .u64 0, .int .u64 0, .int .u64 0, .int .u64 0] 139) (.cells #[.int .u64 0, .int .u64 0, .int .u64 0, .int .u64 0] 139)
  rw [hWs] at q; rw [hW2]; exact q
 have aL : Av W2 (H + 5) 139 (uq4 0 0 0 0) := by
  have q := heap_alloc2_new W (.cells #[.int .u64 0, .int .u64 0, .int .u64 0, .int .u64 0] 139) (.cells #[.int .u64 0, .int .u64 0, .int .u64 0, .int .u64 0] 139)
  rw [hWs] at q; rw [hW2]; exact q
 have hW2s : W2.heap.size = H + 6 := by rw [hW2]; simp; omega
 have ba := (aA.lt)
 have fin1 : dOft a b 0 = a / b := (dEnd a b).1
 have fin2 : dLft a b 0 = a % b := (dEnd a b).2
 obtain ⟨st1, st2⟩ := dStart a b N hN1
 have hHw : w.heap.size ≤ H := by rw [hH]; exact Nat.le_refl _
 have hHw2 : w.heap.size ≤ H + 2 := by omega
 have hHw3 : w.heap.size ≤ H + 3 := by omega
 have z4 : uc 0 = uq4 0 0 0 0 := uc_zero
 rw [← z4] at aO aL
 replace z4 := Lib.hid z4
 obtain ⟨q, hq⟩ : ∃ q, q = a / b := ⟨_, rfl⟩
 obtain ⟨r, hr⟩ : ∃ r, r = a % b := ⟨_, rfl⟩
 rw [← hq, ← hr]
 rw [← hq] at fin1
 rw [← hr] at fin2
 replace hq := Lib.hid hq
 replace hr := Lib.hid hr
 replace fin1 := Lib.hid fin1
 replace fin2 := Lib.hid fin2
 replace st1 := Lib.hid st1
 replace st2 := Lib.hid st2
 replace HA := Lib.hid HA
 replace HC := Lib.hid HC
 replace HS := Lib.hid HS
 replace HL := Lib.hid HL
 replace HZ := Lib.hid HZ
 replace hN := Lib.hid hN
 replace hN1 := Lib.hid hN1
 replace hW := Lib.hid hW
 replace hW2 := Lib.hid hW2
 replace hH := Lib.hid hH
 replace hWs := Lib.hid hWs
 clear e
 go_enter Tryd.func82, Tryd.ntmps82
 go_upto_region 1 with fail
 rw [show w.heap.size + 1 + 1 + 1 = w.heap.size + 3 from rfl, show w.heap.size + 1 + 1 = w.heap.size + 2 from rfl]
 rw [← hW.out, ← hH.out]
 go_upto_region 4 with (first
  | ((with_reducible refine wpList_loadF 139 aB ?_ _ 4 ?_ Tryd.underlying139 ?_ ?_ ?_); rfl; rfl; rfl; kernel_rfl)
  | ((with_reducible refine wpList_binG (op := .eql) (ty := 139) ?_ ?_ ?_ (HZ.out _ _ W) ?_); rfl; rfl; rfl))
 rw [hWs.out]
 rw [show H + 4 + 1 = H + 5 from rfl]
 rw [← hW2.out]
 go_upto_region 5 with (first
  | ((with_reducible refine wpList_loadF 139 aA ?_ _ 4 ?_ Tryd.underlying139 ?_ ?_ ?_); rfl; rfl; rfl; kernel_rfl)
  | (go_at_call 95; refine (HL.out W2).mono ?_; rintro e w3 ⟨rfl, b3⟩))
 have h3s : H + 6 ≤ w3.heap.size := by rw [← hW2s]; exact b3.size
 have d0 : Dv w3 H (uc a) (uc b) (uc 0) (uc 0) := ⟨aA.below b3, aB2.below b3, aR.below b3, aS.below b3, aO.below b3, aL.below b3⟩
 have b3 := bW2.trans (b3.mono bW2.size)
 clear bW bW2 aB2 ba aA aR aS aO aL aB
 have hH5 : w.heap.size ≤ H + 5 := by omega
 go_loopw [9] (fun i wr => ∃ K : Nat, K ≤ N ∧ i = .int .i64 ((K : Int) - 1) ∧ Dv wr H (uc a) (uc b) (uc (dOft a b K)) (uc (dLft a b K)) ∧ Below w.heap.size w wr) (fun i _ => (intOf i + 1).toNat)
 case atStart => exact ⟨N, Nat.le_refl _, rfl, by rw [st1.out, st2.out]; exact d0, b3⟩
 case round =>
  clear d0 b3
  obtain ⟨K, hK, rfl, dw, bw⟩ := hrel
  by_cases hK0 : K = 0
  ·subst hK0
   rw [fin1.out, fin2.out] at dw
   have tk : decide ((0 : Int) ≤ (((0 : Nat) : Int) - 1)) = false := by decide
   go_wp2_with fail
   refine wp_region_relG 3 [] [(2, fun w' => Av w' (H + 2) 139 (uc q))] (RS (H + 2) 139 (uc q)) (by kernel_rfl) (by kernel_rfl) (by kernel_rfl) (by kernel_rfl) (by kernel_rfl) (by kernel_rfl) (fun w => RS.refl w) RS.trans (by intro p hp; cases hp) (by
    intro p hp w w' hR h
    simp only [List.mem_singleton] at hp
    subst hp
    exact hR.2.1 h) ?_
   refine gel (fun w => RS.refl w) rfl (relPure (fun w => RS.refl w) rfl rfl rfl rfl (c := .agg (uc q).toArray) (fun w hw => exec_loadAv (l := uc q) (hw.1.av dw.v4.drew (by omega)) _ _ rfl rfl _ 4 rfl Tryd.underlying139 rfl (by kernel_rfl)) (by simp only [Zs]; rfl) (gend ?_))
   refine gel (fun w => RS.refl w) rfl (relPure (fun w => RS.refl w) rfl rfl rfl rfl (c := .agg (uc r).toArray) (fun w hw => exec_loadAv (l := uc r) (hw.1.av dw.v5.drew (by omega)) _ _ rfl rfl _ 4 rfl Tryd.underlying139 rfl (by kernel_rfl)) (by simp only [Zs]; rfl) (gend ?_))
   refine gStore rfl rfl (fun w hw => exec_storeAv (C := uc q) dw.v2.drew rfl hw _ _ _ rfl rfl rfl 4 rfl (by kernel_rfl) rfl 2) ?_
   refine relEndG fun w5 hw5 hg => ?_
   simp only [List.drop_succ_cons, List.drop_zero]
   have a5 := hg (2, fun w' => Av w' (H + 2) 139 (uc q)) (List.mem_singleton.2 rfl)
   have a6 := hw5.1.av dw.v3.drew (by omega)
   have b5 := bw.trans ((Fr.ofDrew hw5.1).below (B := w.heap.size) (fun k hk => by omega) bw.size)
   dsimp only at a5
   clear hg hw5 dw bw
   go_wp2_with ((with_reducible refine wpList_storeFA 139 b5 a6 hHw3 (uc r) ?_ ?_ 4 ?_ ?_ ?_ ?_ ?_); rfl; rfl; rfl; kernel_rfl; rfl; rfl; intro w6 a7 b7 k7 z7; replace z7 := Lib.hid z7)
   have a8 : Av w6 (H + 2) 139 (uc q) := a5.same (k7 _ (by omega))
   refine bodyPost_ret (v := .tuple #[.agg (uc q).toArray, .agg (uc r).toArray, .bool true]) ((results_cell22 (by rfl) (by rfl) (by rfl) a8 a7 Tryd.underlying139 rfl 4 rfl rfl (by kernel_rfl)).trans (by rfl)) (by rfl) ⟨rfl, b7⟩
  ·obtain ⟨k, rfl⟩ : ∃ k, K = k + 1 := ⟨K - 1, by omega⟩
   have ek : (((k + 1 : Nat) : Int) - 1) = (k : Int) := by omega
   rw [ek]
   have tk : decide ((0 : Int) ≤ (k : Int)) = true := by simp
   clear ek
   obtain ⟨L, hL⟩ : ∃ L, L = dLft a b (k + 1) := ⟨_, rfl⟩
   obtain ⟨Q, hQ⟩ : ∃ Q, Q = dOft a b (k + 1) := ⟨_, rfl⟩
   rw [← hL, ← hQ] at dw
   have hLb : L < b := by rw [hL]; exact dLft_lt _ _ _ hb0
   have hQd : Q % 2 ^ (k + 1) = 0 := by rw [hQ]; exact dOft_dvd _ _ _
   obtain ⟨V, hV, hV2, hlo, hhi⟩ := dStep a b k hb0 hb
   rw [← hL] at hV
   rw [← hQ] at hlo hhi
   obtain ⟨t, ht⟩ : ∃ t, t = a / 2 ^ k % 2 := ⟨_, rfl⟩
   rw [← ht] at hV
   have ht2 : t < 2 := by rw [ht]; exact Nat.mod_lt _ (by omega)
   have hk255 : k < 256 := by omega
   have q0 : (0 : Int) ≤ (k : Int) := by omega
   obtain ⟨j, hj⟩ : ∃ j, j = k / 64 := ⟨_, rfl⟩
   obtain ⟨s, hs⟩ : ∃ s, s = k % 64 := ⟨_, rfl⟩
   have q1 : (k : Int) / 64 = (j : Int) := by omega
   have q2 : (0 : Int) ≤ (j : Int) := by omega
   have hk64 : j < 4 := by omega
   have q3 : (j : Int) < 4 := by omega
   have q4 : (k : Int) % 64 = (s : Int) := by omega
   have q1w : IntKind.i64.wrap (j : Int) = (j : Int) := by rw [IntKind.wrap_i64]; omega
   have q4 : (k : Int).tmod 64 = (s : Int) := by rw [Int.tmod_eq_emod_of_nonneg q0]; exact q4
   have q4w : IntKind.i64.wrap (s : Int) = (s : Int) := by rw [IntKind.wrap_i64]; omega
   have q5 : (0 : Int) ≤ (s : Int) := by omega
   have q6 : (s : Int) < 64 := by omega
   obtain ⟨D, hD⟩ : ∃ D, D = (L + L) % 115792089237316195423570985008687907853269984665640564039457584007913129639936 := ⟨_, rfl⟩
   have hDl : D < 115792089237316195423570985008687907853269984665640564039457584007913129639936 := by rw [hD]; exact Nat.mod_lt _ (by omega)
   have hDe : D % 2 = 0 := by omega
   obtain ⟨o, ho⟩ : ∃ o, o = decide (115792089237316195423570985008687907853269984665640564039457584007913129639936 ≤ L + L) := ⟨_, rfl⟩
   have HA8 := HA.out L (by omega)
   rw [← hD, ← ho] at HA8
   obtain ⟨X, hX⟩ : ∃ X, X = lim a j := ⟨_, rfl⟩
   obtain ⟨Y, hY⟩ : ∃ Y, Y = X / 2 ^ s := ⟨_, rfl⟩
   obtain ⟨P, hP⟩ : ∃ P, P = 2 ^ s := ⟨_, rfl⟩
   obtain ⟨Z0, hZ0⟩ : ∃ Z, Z = lim D 0 := ⟨_, rfl⟩
   obtain ⟨Z1, hZ1⟩ : ∃ Z, Z = Z0 ||| t := ⟨_, rfl⟩
   obtain ⟨Q0, hQ0⟩ : ∃ Z, Z = lim Q j := ⟨_, rfl⟩
   obtain ⟨Q1, hQ1⟩ : ∃ Z, Z = Q0 ||| P := ⟨_, rfl⟩
   have hXl : X < 18446744073709551616 := by rw [hX]; exact lim_lt _ _
   have q7 : (X : Int) / 2 ^ s = (Y : Int) := by rw [hY]; push_cast; rfl
   have q8 : bits .and .u64 (Y : Int) 1 = (t : Int) := by
    have := (bits_nat .u64 64 (by decide) wraps_u64 Y 1 (by rw [hY]; exact Nat.lt_of_le_of_lt (Nat.div_le_self _ _) hXl) (by omega)).1
    rw [Nat.and_one_is_mod, hY, hX, hj, hs, lim_get, ← ht, ← hs, ← hj, ← hX, ← hY] at this
    simpa using this
   have q9 : bits .or .u64 (Z0 : Int) (t : Int) = (Z1 : Int) := by rw [hZ1]; exact (bits_nat .u64 64 (by decide) wraps_u64 Z0 t (by rw [hZ0]; exact lim_lt _ _) (by omega)).2
   have hp64 : P < 18446744073709551616 := by
    rw [hP, show (18446744073709551616 : Nat) = 2 ^ 64 from by decide]
    exact Nat.pow_lt_pow_right (by omega) (by omega)
   have q10 : IntKind.u64.wrap ((2 : Int) ^ s) = (P : Int) := by
    rw [IntKind.wrap_u64, show (2 : Int) ^ s = (P : Int) by rw [hP]; push_cast; rfl]
    omega
   have q11 : bits .or .u64 (Q0 : Int) (P : Int) = (Q1 : Int) := by rw [hQ1]; exact (bits_nat .u64 64 (by decide) wraps_u64 Q0 P (by rw [hQ0]; exact lim_lt _ _) hp64).2
   have hDs := uc_or D t hDe ht2
   rw [← hZ0, ← hZ1] at hDs
   have hQs := uc_digit Q k hQd hk255
   rw [← hj, ← hs, ← hP, ← hQ0, ← hQ1] at hQs
   have gD := uc_get D 0 (by omega)
   have gA := uc_get a j hk64
   have gQ := uc_get Q j hk64
   rw [← hZ0] at gD
   rw [← hX] at gA
   rw [← hQ0] at gQ
   have hQl : j < (uc Q).length := hk64
   have hDz : 0 < (uc D).length := by show 0 < 4; omega
   have hV1 : D + t < 115792089237316195423570985008687907853269984665640564039457584007913129639936 := by omega
   have hov : o = true → 115792089237316195423570985008687907853269984665640564039457584007913129639936 ≤ L + L := fun h => by rw [ho] at h; exact of_decide_eq_true h
   have hno : o = false → ¬ 115792089237316195423570985008687907853269984665640564039457584007913129639936 ≤ L + L := fun h => by rw [ho] at h; exact of_decide_eq_false h
   replace hQs := Lib.hid hQs
   replace hDs := Lib.hid hDs
   replace q8 := Lib.hid q8
   replace q1 := Lib.hid q1
   replace q4 := Lib.hid q4
   replace q1w := Lib.hid q1w
   replace q4w := Lib.hid q4w
   replace q7 := Lib.hid q7
   replace q10 := Lib.hid q10
   replace gD := Lib.hid gD
   replace gA := Lib.hid gA
   replace gQ := Lib.hid gQ
   clear hX hY hP hZ0 hZ1 hQ0 hQ1 hXl hp64 hj hs
   replace q9 := Lib.hid q9
   replace q11 := Lib.hid q11
   replace hL := Lib.hid hL
   replace hQ := Lib.hid hQ
   replace hV := Lib.hid hV
   replace ht := Lib.hid ht
   replace hD := Lib.hid hD
   replace ho := Lib.hid ho
   replace HA8 := Lib.hid HA8
   replace hDe := Lib.hid hDe
   replace hQd := Lib.hid hQd
   replace hlo := Lib.hid hlo
   replace hhi := Lib.hid hhi
   replace hov := Lib.hid hov
   replace hno := Lib.hid hno
   obtain ⟨wv, hwv⟩ : ∃ wv, wv = wr := ⟨_, rfl⟩
   replace hwv := Lib.hid hwv
   go_upto_region 9 with (first
    | ((with_reducible refine wpList_loadF 139 dw.v5 ?_ _ 4 ?_ Tryd.underlying139 ?_ ?_ ?_); rfl; rfl; rfl; kernel_rfl)
    | (go_at_call 59; refine (HA8.out wr).mono ?_; rintro e w7 ⟨rfl, c7⟩; have d7 := dw.below c7; have e7 := bw.trans (c7.mono bw.size))
    | ((with_reducible refine wpList_storeFA 139 e7 d7.v5 hH5 (uc D) ?_ ?_ 4 ?_ ?_ ?_ ?_ ?_); rfl; rfl; rfl; kernel_rfl; rfl; rfl; intro w8 a8 b8 k8 z8; replace z8 := Lib.hid z8))
   have d8 := d7.put5 k8 a8
   clear k8 a8 d7 e7 c7 dw
   refine wp_region_relT 12 [] Ext (by kernel_rfl) (by kernel_rfl) (by kernel_rfl) (by kernel_rfl) (by kernel_rfl) Ext.refl Ext.trans (by intro p hp; cases hp) ?_
   refine ZP (c := .pointer (some ⟨H + 5, 0, none⟩)) (fun w _ => by go_simp; first | done | rfl) ?_
   refine ZP (c := .int .u64 (Z0 : Int)) (fun w hw => by have := (d8.v5.below hw.drew).cell 0 _ gD.out; go_simp; first | done | rfl) ?_
   refine ZM ?_
   refine ZP (c := .int .i64 (j : Int)) (fun w _ => by have := q1.out; have := q0; have := q1w.out; go_simp; first | done | rfl) ?_
   refine ZP (c := .pointer (some ⟨H, j, none⟩)) (fun w _ => by have := q2; have := q3; go_simp; first | done | rfl) ?_
   refine ZP (c := .int .u64 (X : Int)) (fun w hw => by have := (d8.v0.below hw.drew).cell j _ gA.out; go_simp; first | done | rfl) ?_
   refine ZM ?_
   refine ZP (c := .int .i64 (s : Int)) (fun w _ => by have := q4.out; have := q0; have := q4w.out; go_simp; first | done | rfl) ?_
   refine ZP (c := .int .u64 (Y : Int)) (fun w _ => by have := q5; have := q6; have := q7.out; go_simp; first | done | rfl) ?_
   refine ZP (c := .int .u64 (t : Int)) (fun w _ => by have := q8.out; go_simp; first | done | rfl) ?_
   refine ZP (c := .int .u64 (Z1 : Int)) (fun w _ => by have := q9.out; go_simp; first | done | rfl) ?_
   refine ZP (c := .pointer (some ⟨H + 5, 0, none⟩)) (fun w _ => by go_simp; first | done | rfl) ?_
   refine relEnd fun w9 hw9 => fill_end ?_
   simp only [List.drop_succ_cons, List.drop_zero]
   have d9 := d8.below hw9.drew
   have b9 := b8.trans (hw9.drew.mono b8.size)
   ((with_reducible refine wpList_storeI 102 d9.v5 hDz .u64 (Z1 : Int) ?_ ?_ size_u64 ?_); rfl; rfl; intro w10 a10 f10)
   rw [hDs.out] at a10
   have d10 := d9.fr5 f10 a10
   have b10 := b9.trans (f10.below (B := w.heap.size) (fun j hj => by omega) b9.size)
   clear a10 f10 d9 d8 hw9 b9 b8
   cases o with
   | true =>
    have hM2 := hov.out rfl
    have eVb : b ≤ V := by rw [hV.out]; omega
    obtain ⟨eL, eQ⟩ := hhi.out eVb
    have eS : (D + t + 115792089237316195423570985008687907853269984665640564039457584007913129639936 - b) % 115792089237316195423570985008687907853269984665640564039457584007913129639936 = V - b := by
     have := hV.out; have := hD.out; omega
    have b11 := b10
    replace eL := Lib.hid eL
    replace eQ := Lib.hid eQ
    clear hov hno hhi hlo
    go_upto_region 11 with fail
    have HS11 := HS.out (D + t) hV1
    rw [eS] at HS11
    replace HS11 := Lib.hid HS11
    go_upto_region 12 with (first
     | ((with_reducible refine wpList_loadF 139 d10.v5 ?_ _ 4 ?_ Tryd.underlying139 ?_ ?_ ?_); rfl; rfl; rfl; kernel_rfl)
     | ((with_reducible refine wpList_loadF 139 d10.v1 ?_ _ 4 ?_ Tryd.underlying139 ?_ ?_ ?_); rfl; rfl; rfl; kernel_rfl)
     | (go_at_call 97; refine (HS11.out w10).mono ?_; rintro e w12 ⟨rfl, c12⟩; have d12 := d10.below c12; have e12 := b11.trans (c12.mono b11.size))
     | ((with_reducible refine wpList_storeFA 139 e12 d12.v5 hH5 (uc (V - b)) ?_ ?_ 4 ?_ ?_ ?_ ?_ ?_); rfl; rfl; rfl; kernel_rfl; rfl; rfl; intro w11 a11 b11 k11 z11; replace z11 := Lib.hid z11))
    have d11 := d12.put5 k11 a11
    clear k11 a11 d12 e12 c12
    refine wp_region_relT 9 [] Ext (by kernel_rfl) (by kernel_rfl) (by kernel_rfl) (by kernel_rfl) (by kernel_rfl) Ext.refl Ext.trans (by intro p hp; cases hp) ?_
    refine ZM ?_
    refine ZP (c := .int .i64 (j : Int)) (fun w _ => by have := q1.out; have := q0; have := q1w.out; go_simp; first | done | rfl) ?_
    refine ZP (c := .pointer (some ⟨H + 4, j, none⟩)) (fun w _ => by have := q2; have := q3; go_simp; first | done | rfl) ?_
    refine ZP (c := .int .u64 (Q0 : Int)) (fun w hw => by have := (d11.v4.below hw.drew).cell j _ gQ.out; go_simp; first | done | rfl) ?_
    refine ZM ?_
    refine ZP (c := .int .i64 (s : Int)) (fun w _ => by have := q4.out; have := q0; have := q4w.out; go_simp; first | done | rfl) ?_
    refine ZP (c := .int .u64 (P : Int)) (fun w _ => by have := q5; have := q6; have := q10.out; go_simp; first | done | rfl) ?_
    refine ZP (c := .int .u64 (Q1 : Int)) (fun w _ => by have := q11.out; go_simp; first | done | rfl) ?_
    refine ZP (c := .pointer (some ⟨H + 4, j, none⟩)) (fun w _ => by have := q2; have := q3; go_simp; first | done | rfl) ?_
    refine relEnd fun w13 hw13 => fill_end ?_
    simp only [List.drop_succ_cons, List.drop_zero]
    have d13 := d11.below hw13.drew
    have b13 := b11.trans (hw13.drew.mono b11.size)
    ((with_reducible refine wpList_storeI 102 d13.v4 hQl .u64 (Q1 : Int) ?_ ?_ size_u64 ?_); rfl; rfl; intro w14 a14 f14)
    rw [hQs.out] at a14
    have d14 := d13.fr4 f14 a14
    have b14 := b13.trans (f14.below (B := w.heap.size) (fun j hj => by omega) b13.size)
    clear a14 f14 d13 d11 hw13 b13
    go_wp2
    refine ⟨⟨k, by omega, rfl, by rw [eQ.out, eL.out]; exact d14, b14⟩, ?_⟩
    simp [intOf]
   | false =>
    have hM2 := hno.out rfl
    have hDV : D + t = V := by have := hV.out; have := hD.out; omega
    obtain ⟨Z, hZ⟩ : ∃ Z, Z = cmpN (D + t) b := ⟨_, rfl⟩
    have HC10 := HC.out (D + t) hV1
    rw [← hZ] at HC10
    replace HC10 := Lib.hid HC10
    by_cases hVb : b ≤ V
    ·obtain ⟨eL, eQ⟩ := hhi.out hVb
     have eS : (D + t + 115792089237316195423570985008687907853269984665640564039457584007913129639936 - b) % 115792089237316195423570985008687907853269984665640564039457584007913129639936 = V - b := by omega
     have tZ : decide ((0 : Int) ≤ Z) = true := by
      rw [hZ, cmpN, if_neg (by omega)]; split <;> simp
     replace eL := Lib.hid eL
     replace eQ := Lib.hid eQ
     replace hZ := Lib.hid hZ
     clear hov hno hhi hlo hDV
     go_upto_region 11 with (first
      | ((with_reducible refine wpList_loadG 139 d10.v5 ?_ ?_ _ 4 ?_ Tryd.underlying139 ?_ ?_ ?_); rfl; rfl; rfl; rfl; kernel_rfl)
      | ((with_reducible refine wpList_loadG 139 d10.v1 ?_ ?_ _ 4 ?_ Tryd.underlying139 ?_ ?_ ?_); rfl; rfl; rfl; rfl; kernel_rfl)
      | (go_at_call 96; refine (HC10.out w10).mono ?_; rintro e w15 ⟨rfl, c15⟩))
     have d10 := d10.below c15
     have b11 := b10.trans (c15.mono b10.size)
     clear b10 c15
     have HS11 := HS.out (D + t) hV1
     rw [eS] at HS11
     replace HS11 := Lib.hid HS11
     go_upto_region 12 with (first
      | ((with_reducible refine wpList_loadF 139 d10.v5 ?_ _ 4 ?_ Tryd.underlying139 ?_ ?_ ?_); rfl; rfl; rfl; kernel_rfl)
      | ((with_reducible refine wpList_loadF 139 d10.v1 ?_ _ 4 ?_ Tryd.underlying139 ?_ ?_ ?_); rfl; rfl; rfl; kernel_rfl)
      | (go_at_call 97; refine (HS11.out w15).mono ?_; rintro e w12 ⟨rfl, c12⟩; have d12 := d10.below c12; have e12 := b11.trans (c12.mono b11.size))
      | ((with_reducible refine wpList_storeFA 139 e12 d12.v5 hH5 (uc (V - b)) ?_ ?_ 4 ?_ ?_ ?_ ?_ ?_); rfl; rfl; rfl; kernel_rfl; rfl; rfl; intro w11 a11 b11 k11 z11; replace z11 := Lib.hid z11))
     have d11 := d12.put5 k11 a11
     clear k11 a11 d12 e12 c12
     refine wp_region_relT 9 [] Ext (by kernel_rfl) (by kernel_rfl) (by kernel_rfl) (by kernel_rfl) (by kernel_rfl) Ext.refl Ext.trans (by intro p hp; cases hp) ?_
     refine ZM ?_
     refine ZP (c := .int .i64 (j : Int)) (fun w _ => by have := q1.out; have := q0; have := q1w.out; go_simp; first | done | rfl) ?_
     refine ZP (c := .pointer (some ⟨H + 4, j, none⟩)) (fun w _ => by have := q2; have := q3; go_simp; first | done | rfl) ?_
     refine ZP (c := .int .u64 (Q0 : Int)) (fun w hw => by have := (d11.v4.below hw.drew).cell j _ gQ.out; go_simp; first | done | rfl) ?_
     refine ZM ?_
     refine ZP (c := .int .i64 (s : Int)) (fun w _ => by have := q4.out; have := q0; have := q4w.out; go_simp; first | done | rfl) ?_
     refine ZP (c := .int .u64 (P : Int)) (fun w _ => by have := q5; have := q6; have := q10.out; go_simp; first | done | rfl) ?_
     refine ZP (c := .int .u64 (Q1 : Int)) (fun w _ => by have := q11.out; go_simp; first | done | rfl) ?_
     refine ZP (c := .pointer (some ⟨H + 4, j, none⟩)) (fun w _ => by have := q2; have := q3; go_simp; first | done | rfl) ?_
     refine relEnd fun w13 hw13 => fill_end ?_
     simp only [List.drop_succ_cons, List.drop_zero]
     have d13 := d11.below hw13.drew
     have b13 := b11.trans (hw13.drew.mono b11.size)
     ((with_reducible refine wpList_storeI 102 d13.v4 hQl .u64 (Q1 : Int) ?_ ?_ size_u64 ?_); rfl; rfl; intro w14 a14 f14)
     rw [hQs.out] at a14
     have d14 := d13.fr4 f14 a14
     have b14 := b13.trans (f14.below (B := w.heap.size) (fun j hj => by omega) b13.size)
     clear a14 f14 d13 d11 hw13 b13
     go_wp2
     refine ⟨⟨k, by omega, rfl, by rw [eQ.out, eL.out]; exact d14, b14⟩, ?_⟩
     simp [intOf]
    ·obtain ⟨eL, eQ⟩ := hlo.out (by omega)
     have tZ : decide ((0 : Int) ≤ Z) = false := by
      rw [hZ, cmpN, if_pos (by omega)]; rfl
     replace hZ := Lib.hid hZ
     replace eL := Lib.hid eL
     replace eQ := Lib.hid eQ
     replace hDV := Lib.hid hDV
     clear hov hno hhi hlo
     go_wp2_with (first
      | ((with_reducible refine wpList_loadG 139 d10.v5 ?_ ?_ _ 4 ?_ Tryd.underlying139 ?_ ?_ ?_); rfl; rfl; rfl; rfl; kernel_rfl)
      | ((with_reducible refine wpList_loadG 139 d10.v1 ?_ ?_ _ 4 ?_ Tryd.underlying139 ?_ ?_ ?_); rfl; rfl; rfl; rfl; kernel_rfl)
      | (go_at_call 96; refine (HC10.out w10).mono ?_; rintro e w15 ⟨rfl, c15⟩))
     have d10 := d10.below c15
     have b11 := b10.trans (c15.mono b10.size)
     refine ⟨⟨k, by omega, rfl, by rw [eQ.out, eL.out, ← hDV.out]; exact d10, b11⟩, ?_⟩
     simp [intOf]
end Go.Proofs.YtobjgebojhjhnaaDoor
