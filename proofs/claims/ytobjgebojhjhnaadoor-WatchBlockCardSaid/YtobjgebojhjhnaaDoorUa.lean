import Derived.Test.YtobjgebojhjhnaaDoorQr11
import Derived.Test.YtobjgebojhjhnaaDoorQr4
import Derived.Laws.Externs
namespace Go.Proofs.YtobjgebojhjhnaaDoor
open Go.RowKit
theorem run_Add64 (x y c : Nat) (hc : c ≤ 1) (w : World) : (callFunc 84 #[.int .u64 (x : Int), .int .u64 (y : Int), .int .u64 (c : Int)]).run Tryd.prog w = .ok (.value (.tuple #[.int .u64 (((x + y + c) % 18446744073709551616 : Nat) : Int), .int .u64 (((x + y + c) / 18446744073709551616 : Nat) : Int)])) w := by
 rw [run_callFunc_extern Tryd.func84 (by kernel_rfl) (by kernel_rfl) (by kernel_rfl) (e := add64Entry) (by kernel_rfl), run_add64 x y c (by omega) (by omega) (by omega) (by omega)]
 simp only [Result.andThen]
 congr 5 <;> omega
def sub64E : Array Value → Sem Value := fun args => do
 let (x, y, b) ← Extern.MathBitsCarry.three "Sub64" args
 pure (Extern.MathBitsCarry.pair ((x + Extern.MathBitsCarry.m64 - y - b) % Extern.MathBitsCarry.m64) (if x < y + b then 1 else 0))
theorem run_Sub64 (x y b : Nat) (hb : b ≤ 1) (w : World) : (callFunc 103 #[.int .u64 (x : Int), .int .u64 (y : Int), .int .u64 (b : Int)]).run Tryd.prog w = .ok (.value (.tuple #[.int .u64 (((x + 18446744073709551616 - y - b) % 18446744073709551616 : Nat) : Int), .int .u64 ((if x < y + b then 1 else 0 : Nat) : Int)])) w := by
 have h : (sub64E #[.int .u64 x, .int .u64 y, .int .u64 b]).run Tryd.prog w = .ok (.tuple #[.int .u64 (((x + 18446744073709551616 - y - b) % 18446744073709551616 : Nat) : Int), .int .u64 ((if x < y + b then 1 else 0 : Nat) : Int)]) w := by
  have : b = 0 ∨ b = 1 := by omega
  rcases this with rfl | rfl <;> rfl
 rw [run_callFunc_extern Tryd.func103 (by kernel_rfl) (by kernel_rfl) (by kernel_rfl) (e := sub64E) (by kernel_rfl), h]
 rfl
theorem uc_get (n k : Nat) (hk : k < 4) : (uc n)[k]? = some (.int .u64 (lim n k : Int)) := by
 have h : k = 0 ∨ k = 1 ∨ k = 2 ∨ k = 3 := by omega
 rcases h with rfl | rfl | rfl | rfl <;> rfl
def upto (f : Nat → Nat) (k : Nat) : List Value := uq4 (if 0 < k then f 0 else 0) (if 1 < k then f 1 else 0) (if 2 < k then f 2 else 0) (if 3 < k then f 3 else 0)
theorem upto_set (f : Nat → Nat) (k : Nat) (hk : k < 4) : (upto f k).set k (.int .u64 (f k : Int)) = upto f (k + 1) := by
 have h : k = 0 ∨ k = 1 ∨ k = 2 ∨ k = 3 := by omega
 rcases h with rfl | rfl | rfl | rfl <;> simp [upto, uq4]
theorem upto_4 (f : Nat → Nat) : upto f 4 = uq4 (f 0) (f 1) (f 2) (f 3) := rfl
theorem upto_get (f : Nat → Nat) (k : Nat) (hk : k < 4) : (upto f k)[k]? = some (.int .u64 0) := by
 have h : k = 0 ∨ k = 1 ∨ k = 2 ∨ k = 3 := by omega
 rcases h with rfl | rfl | rfl | rfl <;> simp [upto, uq4]
def car (n m : Nat) : Nat → Nat
 | 0 => 0
 | k + 1 => (lim n k + lim m k + car n m k) / 18446744073709551616
def sumd (n m k : Nat) : Nat := (lim n k + lim m k + car n m k) % 18446744073709551616
def bor (n m : Nat) : Nat → Nat
 | 0 => 0
 | k + 1 => if lim n k < lim m k + bor n m k then 1 else 0
def difd (n m k : Nat) : Nat := (lim n k + 18446744073709551616 - lim m k - bor n m k) % 18446744073709551616
theorem car_le (n m : Nat) : ∀ k, car n m k ≤ 1
 | 0 => by simp [car]
 | k + 1 => by
  have h := car_le n m k
  have h1 := lim_lt n k
  have h2 := lim_lt m k
  rw [car]
  omega
theorem bor_le (n m : Nat) : ∀ k, bor n m k ≤ 1
 | 0 => by simp [bor]
 | k + 1 => by rw [bor]; split <;> omega
theorem sum_all (n m : Nat) (hn : n < 115792089237316195423570985008687907853269984665640564039457584007913129639936) (hm : m < 115792089237316195423570985008687907853269984665640564039457584007913129639936) : upto (sumd n m) 4 = uc ((n + m) % 115792089237316195423570985008687907853269984665640564039457584007913129639936) ∧ (car n m 4 ≠ 0 ↔ 115792089237316195423570985008687907853269984665640564039457584007913129639936 ≤ n + m) := by
 have e0 : car n m 0 = 0 := rfl
 have e1 : car n m 1 = (lim n 0 + lim m 0 + car n m 0) / 18446744073709551616 := rfl
 have e2 : car n m 2 = (lim n 1 + lim m 1 + car n m 1) / 18446744073709551616 := rfl
 have e3 : car n m 3 = (lim n 2 + lim m 2 + car n m 2) / 18446744073709551616 := rfl
 have e4 : car n m 4 = (lim n 3 + lim m 3 + car n m 3) / 18446744073709551616 := rfl
 have s0 : sumd n m 0 = (lim n 0 + lim m 0 + car n m 0) % 18446744073709551616 := rfl
 have s1 : sumd n m 1 = (lim n 1 + lim m 1 + car n m 1) % 18446744073709551616 := rfl
 have s2 : sumd n m 2 = (lim n 2 + lim m 2 + car n m 2) % 18446744073709551616 := rfl
 have s3 : sumd n m 3 = (lim n 3 + lim m 3 + car n m 3) % 18446744073709551616 := rfl
 have hu := upto_4 (sumd n m)
 rw [hu]
 have l0 := lim_lt n 0
 have l1 := lim_lt n 1
 have l2 := lim_lt n 2
 have l3 := lim_lt n 3
 have r0 := lim_lt m 0
 have r1 := lim_lt m 1
 have r2 := lim_lt m 2
 have r3 := lim_lt m 3
 have hns := lim_sum hn
 have hms := lim_sum hm
 generalize sumd n m 0 = z0 at *
 generalize sumd n m 1 = z1 at *
 generalize sumd n m 2 = z2 at *
 generalize sumd n m 3 = z3 at *
 generalize car n m 0 = c0 at *
 generalize car n m 1 = c1 at *
 generalize car n m 2 = c2 at *
 generalize car n m 3 = c3 at *
 generalize car n m 4 = c4 at *
 obtain ⟨N, hN, hNs, q0, q1, q2, q3⟩ := lim_of z0 z1 z2 z3 (by omega) (by omega) (by omega) (by omega)
 rw [← q0, ← q1, ← q2, ← q3]
 generalize lim n 0 = x0 at *
 generalize lim n 1 = x1 at *
 generalize lim n 2 = x2 at *
 generalize lim n 3 = x3 at *
 generalize lim m 0 = y0 at *
 generalize lim m 1 = y1 at *
 generalize lim m 2 = y2 at *
 generalize lim m 3 = y3 at *
 have hNE : (n + m) % 115792089237316195423570985008687907853269984665640564039457584007913129639936 = N ∧ (c4 ≠ 0 ↔ 115792089237316195423570985008687907853269984665640564039457584007913129639936 ≤ n + m) := by
  clear q0 q1 q2 q3 hu
  omega
 exact ⟨by rw [hNE.1]; rfl, hNE.2⟩
theorem dif_all (n m : Nat) (hn : n < 115792089237316195423570985008687907853269984665640564039457584007913129639936) (hm : m < 115792089237316195423570985008687907853269984665640564039457584007913129639936) : upto (difd n m) 4 = uc ((n + 115792089237316195423570985008687907853269984665640564039457584007913129639936 - m) % 115792089237316195423570985008687907853269984665640564039457584007913129639936) ∧ (bor n m 4 ≠ 0 ↔ n < m) := by
 have e0 : bor n m 0 = 0 := rfl
 have e1 : bor n m 1 = if lim n 0 < lim m 0 + bor n m 0 then 1 else 0 := by conv => lhs; unfold bor
 have e2 : bor n m 2 = if lim n 1 < lim m 1 + bor n m 1 then 1 else 0 := by conv => lhs; unfold bor
 have e3 : bor n m 3 = if lim n 2 < lim m 2 + bor n m 2 then 1 else 0 := by conv => lhs; unfold bor
 have e4 : bor n m 4 = if lim n 3 < lim m 3 + bor n m 3 then 1 else 0 := by conv => lhs; unfold bor
 have s0 : difd n m 0 = (lim n 0 + 18446744073709551616 - lim m 0 - bor n m 0) % 18446744073709551616 := by rw [difd]
 have s1 : difd n m 1 = (lim n 1 + 18446744073709551616 - lim m 1 - bor n m 1) % 18446744073709551616 := by rw [difd]
 have s2 : difd n m 2 = (lim n 2 + 18446744073709551616 - lim m 2 - bor n m 2) % 18446744073709551616 := by rw [difd]
 have s3 : difd n m 3 = (lim n 3 + 18446744073709551616 - lim m 3 - bor n m 3) % 18446744073709551616 := by rw [difd]
 have hu := upto_4 (difd n m)
 rw [hu]
 have l0 := lim_lt n 0
 have l1 := lim_lt n 1
 have l2 := lim_lt n 2
 have l3 := lim_lt n 3
 have r0 := lim_lt m 0
 have r1 := lim_lt m 1
 have r2 := lim_lt m 2
 have r3 := lim_lt m 3
 have hns := lim_sum hn
 have hms := lim_sum hm
 generalize difd n m 0 = z0 at *
 generalize difd n m 1 = z1 at *
 generalize difd n m 2 = z2 at *
 generalize difd n m 3 = z3 at *
 generalize bor n m 0 = c0 at *
 generalize bor n m 1 = c1 at *
 generalize bor n m 2 = c2 at *
 generalize bor n m 3 = c3 at *
 generalize bor n m 4 = c4 at *
 obtain ⟨N, hN, hNs, q0, q1, q2, q3⟩ := lim_of z0 z1 z2 z3 (by omega) (by omega) (by omega) (by omega)
 rw [← q0, ← q1, ← q2, ← q3]
 generalize lim n 0 = x0 at *
 generalize lim n 1 = x1 at *
 generalize lim n 2 = x2 at *
 generalize lim n 3 = x3 at *
 generalize lim m 0 = y0 at *
 generalize lim m 1 = y1 at *
 generalize lim m 2 = y2 at *
 generalize lim m 3 = y3 at *
 have hz : ∀ x y b z c : Nat, x < 18446744073709551616 → y < 18446744073709551616 → b ≤ 1 → z = (x + 18446744073709551616 - y - b) % 18446744073709551616 → c = (if x < y + b then 1 else 0) → x + 18446744073709551616 * c = z + y + b ∧ c ≤ 1 := by
  intro x y b z c h1 h2 h3 h4 h5
  split at h5 <;> omega
 obtain ⟨g1, k1⟩ := hz x0 y0 c0 z0 c1 l0 r0 (by omega) s0 e1
 obtain ⟨g2, k2⟩ := hz x1 y1 c1 z1 c2 l1 r1 k1 s1 e2
 obtain ⟨g3, k3⟩ := hz x2 y2 c2 z2 c3 l2 r2 k2 s2 e3
 obtain ⟨g4, k4⟩ := hz x3 y3 c3 z3 c4 l3 r3 k3 s3 e4
 have hlin : n + 115792089237316195423570985008687907853269984665640564039457584007913129639936 * c4 = N + m := by
  clear q0 q1 q2 q3 hu e1 e2 e3 e4 s0 s1 s2 s3 hz l0 l1 l2 l3 r0 r1 r2 r3 hN hn hm k1 k2 k3 k4
  omega
 have hNE : (n + 115792089237316195423570985008687907853269984665640564039457584007913129639936 - m) % 115792089237316195423570985008687907853269984665640564039457584007913129639936 = N ∧ (c4 ≠ 0 ↔ n < m) := by
  clear q0 q1 q2 q3 hu e0 e1 e2 e3 e4 s0 s1 s2 s3 hz l0 l1 l2 l3 r0 r1 r2 r3 hns hms hNs g1 g2 g3 g4 k1 k2 k3
  have hc : c4 = 0 ∨ c4 = 1 := by omega
  rcases hc with rfl | rfl
  ·rw [Nat.mul_zero, Nat.add_zero] at hlin
   omega
  ·rw [Nat.mul_one] at hlin
   omega
 exact ⟨by rw [hNE.1]; rfl, hNE.2⟩
set_option maxRecDepth 100000 in
set_option maxHeartbeats 4000000 in
theorem UAdd (n m : Nat) (hn : n < 115792089237316195423570985008687907853269984665640564039457584007913129639936) (hm : m < 115792089237316195423570985008687907853269984665640564039457584007913129639936) (w : World) :
  Calls Tryd.prog 59 #[.agg (uc n).toArray, .agg (uc m).toArray] w fun e w' => e = .returned (.tuple #[.agg (uc ((n + m) % 115792089237316195423570985008687907853269984665640564039457584007913129639936)).toArray, .bool (decide (115792089237316195423570985008687907853269984665640564039457584007913129639936 ≤ n + m))]) ∧ Below w.heap.size w w' := by
 obtain ⟨W, hW⟩ : ∃ W, W = ((((w.alloc (.cells (uc n).toArray 139)).alloc (.cells (uc m).toArray 139)).alloc (.cells #[.int .u64 0, .int .u64 0, .int .u64 0, .int .u64 0] 139)).alloc (.cells #[.int .u64 0, .int .u64 0, .int .u64 0, .int .u64 0] 139)) := ⟨_, rfl⟩
 obtain ⟨H, hH⟩ : ∃ H, H = w.heap.size := ⟨_, rfl⟩
 have e : ∀ (v : World) (o : Obj), (v.alloc o).heap.size = v.heap.size + 1 := fun v o => by simp
 have bW : Below w.heap.size w W := by rw [hW]; exact ((((Below.refl _ _).alloc (Nat.le_refl _) _).alloc (by simp) _).alloc (by simp; omega) _).alloc (by simp; omega) _
 have aA : Av W H 139 (uc n) := by rw [hW, hH]; exact Av.alloc (Av.alloc (heap_alloc2_old _ _ _) _) _
 have aB : Av W (H + 1) 139 (uc m) := by rw [hW, hH]; exact Av.alloc (Av.alloc (heap_alloc2_new _ _ _) _) _
 have aR : Av W (H + 2) 139 (uq4 0 0 0 0) := by
  have q := heap_alloc_new ((w.alloc (.cells (uc n).toArray 139)).alloc (.cells (uc m).toArray 139)) (.cells #[.int .u64 0, .int .u64 0, .int .u64 0, .int .u64 0] 139)
  rw [e, e] at q
  rw [hW, hH]; exact Av.alloc q _
 have aO : Av W (H + 3) 139 (upto (sumd n m) 0) := by
  have q := heap_alloc_new (((w.alloc (.cells (uc n).toArray 139)).alloc (.cells (uc m).toArray 139)).alloc (.cells #[.int .u64 0, .int .u64 0, .int .u64 0, .int .u64 0] 139)) (.cells #[.int .u64 0, .int .u64 0, .int .u64 0, .int .u64 0] 139)
  rw [e, e, e] at q
  rw [hW, hH]; exact q
 have hWs : W.heap.size = H + 4 := by rw [hW, hH]; simp
 have hall := sum_all n m hn hm
 obtain ⟨RR, hRR⟩ : ∃ R, R = (n + m) % 115792089237316195423570985008687907853269984665640564039457584007913129639936 := ⟨_, rfl⟩
 obtain ⟨BB, hBB⟩ : ∃ b, b = decide (115792089237316195423570985008687907853269984665640564039457584007913129639936 ≤ n + m) := ⟨_, rfl⟩
 rw [← hRR] at hall ⊢
 rw [← hBB]
 have hall : upto (sumd n m) 4 = uc RR ∧ ∀ C0, C0 = car n m 4 → ((C0 : Int) != 0) = BB := ⟨hall.1, fun C0 hC0 => by
  have hq := hall.2
  rw [← hC0] at hq
  rw [hBB]
  by_cases hc : C0 = 0
  ·have : ¬ (115792089237316195423570985008687907853269984665640564039457584007913129639936 ≤ n + m) := fun h => hq.2 h hc
   rw [hc]; simp [this]
  ·have : 115792089237316195423570985008687907853269984665640564039457584007913129639936 ≤ n + m := hq.1 hc
   simp only [this, decide_true]; simp; omega⟩
 replace hall := Lib.hid hall
 replace hRR := Lib.hid hRR
 replace hBB := Lib.hid hBB
 replace hW := Lib.hid hW
 replace hH := Lib.hid hH
 go_enter Tryd.func59, Tryd.ntmps59
 go_upto_region 2 with fail
 rw [show w.heap.size + 1 + 1 + 1 = w.heap.size + 3 from rfl, show w.heap.size + 1 + 1 = w.heap.size + 2 from rfl]
 rw [← hW.out, ← hH.out]
 go_wp2
 go_loopw [7, 8, 9] (fun c _ i wr => ∃ k : Nat, k ≤ 4 ∧ i = .int .i64 (k : Int) ∧ c = .int .u64 (car n m k : Int) ∧ Av wr (H + 3) 139 (upto (sumd n m) k) ∧ Fr (fun j => j = H + 3) W wr) (fun _ _ i _ => 4 - (intOf i).toNat)
 case atStart => exact ⟨0, by omega, rfl, rfl, aO, Fr.refl _ _⟩
 case round =>
  clear aO
  obtain ⟨k, hk, rfl, rfl, ao, fr⟩ := hrel
  have aA := fr.av aA (by omega)
  have aB := fr.av aB (by omega)
  by_cases hk4 : k < 4
  ·have tk : decide ((k : Int) < 4) = true := by simp; omega
   obtain ⟨C0, hC0⟩ : ∃ C, C = car n m k := ⟨_, rfl⟩
   obtain ⟨C, hC⟩ : ∃ C, C = car n m (k + 1) := ⟨_, rfl⟩
   obtain ⟨D, hD⟩ : ∃ D, D = sumd n m k := ⟨_, rfl⟩
   have LAW := fun w => run_Add64 (lim n k) (lim m k) C0 (by rw [hC0]; exact car_le n m k) w
   rw [hC0, show (lim n k + lim m k + car n m k) % 18446744073709551616 = D from hD.symm, show (lim n k + lim m k + car n m k) / 18446744073709551616 = C from hC.symm, ← hC0] at LAW
   have hset := upto_set (sumd n m) k hk4
   have hget := upto_get (sumd n m) k hk4
   rw [← hD] at hset
   rw [← hC0]
   have k0 : (0 : Int) ≤ (k : Int) := by omega
   have k4 : (k : Int) < 4 := by omega
   replace LAW := Lib.hid LAW
   replace hset := Lib.hid hset
   replace hget := Lib.hid hget
   replace hC := Lib.hid hC
   replace hC0 := Lib.hid hC0
   replace hD := Lib.hid hD
   obtain ⟨wv, hwv⟩ : ∃ wv, wv = wr := ⟨_, rfl⟩
   have bwr := Below.refl wr.heap.size wr
   go_upto_region 6 with fail
   obtain ⟨B0, hB0⟩ : ∃ B, B = upto (sumd n m) k := ⟨_, rfl⟩
   obtain ⟨C1, hC1⟩ : ∃ C, C = upto (sumd n m) (k + 1) := ⟨_, rfl⟩
   have hlB : k < B0.length := by rw [hB0]; exact hk4
   have hlC : k < C1.length := by rw [hC1]; exact hk4
   have hset := hset.out
   rw [← hB0, ← hC1] at hset
   have hset2 : C1.set k (.int .u64 (D : Int)) = C1 := by rw [← hset, List.set_set]
   rw [← hB0] at ao
   replace hset := Lib.hid hset
   replace hset2 := Lib.hid hset2
   replace hB0 := Lib.hid hB0
   replace hC1 := Lib.hid hC1
   refine wp_region_relG 14 [] [(13, fun w' => Av w' (H + 3) 139 C1)] (RC (H + 3) 139 B0 C1) (by kernel_rfl) (by kernel_rfl) (by kernel_rfl) (by kernel_rfl) (by kernel_rfl) (by kernel_rfl) (fun w => RC.refl w) RC.trans (by intro p hp; cases hp) (by
    intro p hp w w' hR h
    simp only [List.mem_singleton] at hp
    subst hp
    exact hR.2.1 h) ?_
   refine gel (fun w => RC.refl w) rfl (relMove (fun w => RC.refl w) rfl rfl rfl rfl _ (.inl rfl) (by conv => lhs; whnf) (by simp only [Zs]; rfl) (gend ?_))
   refine gel (fun w => RC.refl w) rfl (relMove (fun w => RC.refl w) rfl rfl rfl rfl _ (.inl rfl) (by conv => lhs; whnf) (by simp only [Zs]; rfl) (gend ?_))
   refine gel (fun w => RC.refl w) rfl (relPure (fun w => RC.refl w) rfl rfl rfl rfl (c := .pointer (some ⟨H, k, none⟩)) (fun w _ => by have := k0; have := k4; go_simp; first | done | rfl) (by simp only [Zs]; rfl) (gend ?_))
   refine gel (fun w => RC.refl w) rfl (relPure (fun w => RC.refl w) rfl rfl rfl rfl (c := .int .u64 (lim n k : Int)) (fun w hw => by have := (hw.1.av aA.drew (by omega)).cell k _ (uc_get n k hk4); go_simp; first | done | rfl) (by simp only [Zs]; rfl) (gend ?_))
   refine gel (fun w => RC.refl w) rfl (relMove (fun w => RC.refl w) rfl rfl rfl rfl _ (.inl rfl) (by conv => lhs; whnf) (by simp only [Zs]; rfl) (gend ?_))
   refine gel (fun w => RC.refl w) rfl (relPure (fun w => RC.refl w) rfl rfl rfl rfl (c := .pointer (some ⟨H + 1, k, none⟩)) (fun w _ => by have := k0; have := k4; go_simp; first | done | rfl) (by simp only [Zs]; rfl) (gend ?_))
   refine gel (fun w => RC.refl w) rfl (relPure (fun w => RC.refl w) rfl rfl rfl rfl (c := .int .u64 (lim m k : Int)) (fun w hw => by have := (hw.1.av aB.drew (by omega)).cell k _ (uc_get m k hk4); go_simp; first | done | rfl) (by simp only [Zs]; rfl) (gend ?_))
   refine gel (fun w => RC.refl w) rfl (relMove (fun w => RC.refl w) rfl rfl rfl rfl _ (.inl rfl) (by conv => lhs; whnf) (by simp only [Zs]; rfl) (gend ?_))
   refine gel (fun w => RC.refl w) rfl (relPure (fun w => RC.refl w) rfl rfl rfl rfl (c := .tuple #[.int .u64 (D : Int), .int .u64 (C : Int)]) (fun w _ => by have := LAW.out w; go_simp; first | done | rfl) (by simp only [Zs]; rfl) (gend ?_))
   refine gel (fun w => RC.refl w) rfl (relMove (fun w => RC.refl w) rfl rfl rfl rfl _ (.inl rfl) (by conv => lhs; whnf) (by simp only [Zs]; rfl) (gend ?_))
   refine gel (fun w => RC.refl w) rfl (relPure (fun w => RC.refl w) rfl rfl rfl rfl (c := .int .u64 (D : Int)) (fun w _ => by go_simp; first | done | rfl) (by simp only [Zs]; rfl) (gend ?_))
   refine gel (fun w => RC.refl w) rfl (relPure (fun w => RC.refl w) rfl rfl rfl rfl (c := .int .u64 (C : Int)) (fun w _ => by go_simp; first | done | rfl) (by simp only [Zs]; rfl) (gend ?_))
   refine gel (fun w => RC.refl w) rfl (relPure (fun w => RC.refl w) rfl rfl rfl rfl (c := .pointer (some ⟨H + 3, k, none⟩)) (fun w _ => by have := k0; have := k4; go_simp; first | done | rfl) (by simp only [Zs]; rfl) (gend ?_))
   refine gStore rfl rfl (fun w hw => RC.store ao.drew hw _ _ _ rfl k hlB hlC .u64 (D : Int) rfl rfl size_u64 hset.out hset2.out 13) ?_
   refine relEndG fun w6 hw6 hg => ?_
   simp only [List.drop_succ_cons, List.drop_zero]
   have a7 := hg (13, fun w' => Av w' (H + 3) 139 C1) (List.mem_singleton.2 rfl)
   have f7 := fr.trans (Fr.ofDrew hw6.1)
   dsimp only at a7
   rw [hC1.out] at a7
   replace a7 := Lib.hid a7
   replace f7 := Lib.hid f7
   clear ao fr aA aB bwr hwv hg hw6
   go_wp2
   refine ⟨⟨k + 1, by omega, by go_num, by rw [hC.out], a7.out, f7.out⟩, ?_⟩
   simp [intOf]; omega
  ·obtain rfl : k = 4 := by omega
   have tk : decide (((4 : Nat) : Int) < 4) = false := by decide
   obtain ⟨C0, hC0⟩ : ∃ C, C = car n m 4 := ⟨_, rfl⟩
   rw [hall.out.1] at ao
   rw [← hC0]
   have tc := hall.out.2 C0 hC0
   have aR4 := fr.av aR (by omega)
   have bF : Below w.heap.size w wr := bW.trans (fr.below (B := w.heap.size) (fun j hj => by rw [hj, ← hH.out]; omega) (by rw [hWs, ← hH.out]; omega))
   have hHle : w.heap.size ≤ H + 2 := by rw [← hH.out]; omega
   clear hC0 hRR hBB aA aB aR hall
   go_wp2_with (first
    | ((with_reducible refine wpList_loadF 139 ao ?_ _ 4 rfl Tryd.underlying139 ?_ ?_ ?_); rfl; rfl; kernel_rfl)
    | ((with_reducible refine wpList_storeFA 139 bF aR4 hHle (uc RR) ?_ ?_ 4 rfl ?_ ?_ ?_ ?_); rfl; rfl; kernel_rfl; rfl; rfl; intro w4 a4 b4 k4 z4))
   refine bodyPost_ret (v := .tuple #[.agg (uc RR).toArray, .bool BB]) ((results_cellU (C := uc RR) (by rfl) (by rfl) a4 _ Tryd.underlying139 rfl 4 rfl (by kernel_rfl)).trans (by rfl)) (by rfl) ⟨rfl, b4⟩
set_option maxRecDepth 100000 in
set_option maxHeartbeats 4000000 in
theorem USub (n m : Nat) (hn : n < 115792089237316195423570985008687907853269984665640564039457584007913129639936) (hm : m < 115792089237316195423570985008687907853269984665640564039457584007913129639936) (w : World) :
  Calls Tryd.prog 97 #[.agg (uc n).toArray, .agg (uc m).toArray] w fun e w' => e = .returned (.tuple #[.agg (uc ((n + 115792089237316195423570985008687907853269984665640564039457584007913129639936 - m) % 115792089237316195423570985008687907853269984665640564039457584007913129639936)).toArray, .bool (decide (n < m))]) ∧ Below w.heap.size w w' := by
 obtain ⟨W, hW⟩ : ∃ W, W = ((((w.alloc (.cells (uc n).toArray 139)).alloc (.cells (uc m).toArray 139)).alloc (.cells #[.int .u64 0, .int .u64 0, .int .u64 0, .int .u64 0] 139)).alloc (.cells #[.int .u64 0, .int .u64 0, .int .u64 0, .int .u64 0] 139)) := ⟨_, rfl⟩
 obtain ⟨H, hH⟩ : ∃ H, H = w.heap.size := ⟨_, rfl⟩
 have e : ∀ (v : World) (o : Obj), (v.alloc o).heap.size = v.heap.size + 1 := fun v o => by simp
 have bW : Below w.heap.size w W := by rw [hW]; exact ((((Below.refl _ _).alloc (Nat.le_refl _) _).alloc (by simp) _).alloc (by simp; omega) _).alloc (by simp; omega) _
 have aA : Av W H 139 (uc n) := by rw [hW, hH]; exact Av.alloc (Av.alloc (heap_alloc2_old _ _ _) _) _
 have aB : Av W (H + 1) 139 (uc m) := by rw [hW, hH]; exact Av.alloc (Av.alloc (heap_alloc2_new _ _ _) _) _
 have aR : Av W (H + 2) 139 (uq4 0 0 0 0) := by
  have q := heap_alloc_new ((w.alloc (.cells (uc n).toArray 139)).alloc (.cells (uc m).toArray 139)) (.cells #[.int .u64 0, .int .u64 0, .int .u64 0, .int .u64 0] 139)
  rw [e, e] at q
  rw [hW, hH]; exact Av.alloc q _
 have aO : Av W (H + 3) 139 (upto (difd n m) 0) := by
  have q := heap_alloc_new (((w.alloc (.cells (uc n).toArray 139)).alloc (.cells (uc m).toArray 139)).alloc (.cells #[.int .u64 0, .int .u64 0, .int .u64 0, .int .u64 0] 139)) (.cells #[.int .u64 0, .int .u64 0, .int .u64 0, .int .u64 0] 139)
  rw [e, e, e] at q
  rw [hW, hH]; exact q
 have hWs : W.heap.size = H + 4 := by rw [hW, hH]; simp
 have hall := dif_all n m hn hm
 obtain ⟨RR, hRR⟩ : ∃ R, R = (n + 115792089237316195423570985008687907853269984665640564039457584007913129639936 - m) % 115792089237316195423570985008687907853269984665640564039457584007913129639936 := ⟨_, rfl⟩
 obtain ⟨BB, hBB⟩ : ∃ b, b = decide (n < m) := ⟨_, rfl⟩
 rw [← hRR] at hall ⊢
 rw [← hBB]
 have hall : upto (difd n m) 4 = uc RR ∧ ∀ C0, C0 = bor n m 4 → ((C0 : Int) != 0) = BB := ⟨hall.1, fun C0 hC0 => by
  have hq := hall.2
  rw [← hC0] at hq
  rw [hBB]
  by_cases hc : C0 = 0
  ·have : ¬ (n < m) := fun h => hq.2 h hc
   rw [hc]; simp [this]
  ·have : n < m := hq.1 hc
   simp only [this, decide_true]; simp; omega⟩
 replace hall := Lib.hid hall
 replace hRR := Lib.hid hRR
 replace hBB := Lib.hid hBB
 replace hW := Lib.hid hW
 replace hH := Lib.hid hH
 go_enter Tryd.func97, Tryd.ntmps97
 go_upto_region 2 with fail
 rw [show w.heap.size + 1 + 1 + 1 = w.heap.size + 3 from rfl, show w.heap.size + 1 + 1 = w.heap.size + 2 from rfl]
 rw [← hW.out, ← hH.out]
 go_wp2
 go_loopw [7, 8, 9] (fun c _ i wr => ∃ k : Nat, k ≤ 4 ∧ i = .int .i64 (k : Int) ∧ c = .int .u64 (bor n m k : Int) ∧ Av wr (H + 3) 139 (upto (difd n m) k) ∧ Fr (fun j => j = H + 3) W wr) (fun _ _ i _ => 4 - (intOf i).toNat)
 case atStart => exact ⟨0, by omega, rfl, rfl, aO, Fr.refl _ _⟩
 case round =>
  clear aO
  obtain ⟨k, hk, rfl, rfl, ao, fr⟩ := hrel
  have aA := fr.av aA (by omega)
  have aB := fr.av aB (by omega)
  by_cases hk4 : k < 4
  ·have tk : decide ((k : Int) < 4) = true := by simp; omega
   obtain ⟨C0, hC0⟩ : ∃ C, C = bor n m k := ⟨_, rfl⟩
   obtain ⟨C, hC⟩ : ∃ C, C = bor n m (k + 1) := ⟨_, rfl⟩
   obtain ⟨D, hD⟩ : ∃ D, D = difd n m k := ⟨_, rfl⟩
   have LAW := fun w => run_Sub64 (lim n k) (lim m k) C0 (by rw [hC0]; exact bor_le n m k) w
   rw [hC0, show (lim n k + 18446744073709551616 - lim m k - bor n m k) % 18446744073709551616 = D from hD.symm, show (if lim n k < lim m k + bor n m k then 1 else 0) = C from hC.symm, ← hC0] at LAW
   have hset := upto_set (difd n m) k hk4
   have hget := upto_get (difd n m) k hk4
   rw [← hD] at hset
   rw [← hC0]
   have k0 : (0 : Int) ≤ (k : Int) := by omega
   have k4 : (k : Int) < 4 := by omega
   replace LAW := Lib.hid LAW
   replace hset := Lib.hid hset
   replace hget := Lib.hid hget
   replace hC := Lib.hid hC
   replace hC0 := Lib.hid hC0
   replace hD := Lib.hid hD
   obtain ⟨wv, hwv⟩ : ∃ wv, wv = wr := ⟨_, rfl⟩
   have bwr := Below.refl wr.heap.size wr
   go_upto_region 6 with fail
   obtain ⟨B0, hB0⟩ : ∃ B, B = upto (difd n m) k := ⟨_, rfl⟩
   obtain ⟨C1, hC1⟩ : ∃ C, C = upto (difd n m) (k + 1) := ⟨_, rfl⟩
   have hlB : k < B0.length := by rw [hB0]; exact hk4
   have hlC : k < C1.length := by rw [hC1]; exact hk4
   have hset := hset.out
   rw [← hB0, ← hC1] at hset
   have hset2 : C1.set k (.int .u64 (D : Int)) = C1 := by rw [← hset, List.set_set]
   rw [← hB0] at ao
   replace hset := Lib.hid hset
   replace hset2 := Lib.hid hset2
   replace hB0 := Lib.hid hB0
   replace hC1 := Lib.hid hC1
   refine wp_region_relG 14 [] [(13, fun w' => Av w' (H + 3) 139 C1)] (RC (H + 3) 139 B0 C1) (by kernel_rfl) (by kernel_rfl) (by kernel_rfl) (by kernel_rfl) (by kernel_rfl) (by kernel_rfl) (fun w => RC.refl w) RC.trans (by intro p hp; cases hp) (by
    intro p hp w w' hR h
    simp only [List.mem_singleton] at hp
    subst hp
    exact hR.2.1 h) ?_
   refine gel (fun w => RC.refl w) rfl (relMove (fun w => RC.refl w) rfl rfl rfl rfl _ (.inl rfl) (by conv => lhs; whnf) (by simp only [Zs]; rfl) (gend ?_))
   refine gel (fun w => RC.refl w) rfl (relMove (fun w => RC.refl w) rfl rfl rfl rfl _ (.inl rfl) (by conv => lhs; whnf) (by simp only [Zs]; rfl) (gend ?_))
   refine gel (fun w => RC.refl w) rfl (relPure (fun w => RC.refl w) rfl rfl rfl rfl (c := .pointer (some ⟨H, k, none⟩)) (fun w _ => by have := k0; have := k4; go_simp; first | done | rfl) (by simp only [Zs]; rfl) (gend ?_))
   refine gel (fun w => RC.refl w) rfl (relPure (fun w => RC.refl w) rfl rfl rfl rfl (c := .int .u64 (lim n k : Int)) (fun w hw => by have := (hw.1.av aA.drew (by omega)).cell k _ (uc_get n k hk4); go_simp; first | done | rfl) (by simp only [Zs]; rfl) (gend ?_))
   refine gel (fun w => RC.refl w) rfl (relMove (fun w => RC.refl w) rfl rfl rfl rfl _ (.inl rfl) (by conv => lhs; whnf) (by simp only [Zs]; rfl) (gend ?_))
   refine gel (fun w => RC.refl w) rfl (relPure (fun w => RC.refl w) rfl rfl rfl rfl (c := .pointer (some ⟨H + 1, k, none⟩)) (fun w _ => by have := k0; have := k4; go_simp; first | done | rfl) (by simp only [Zs]; rfl) (gend ?_))
   refine gel (fun w => RC.refl w) rfl (relPure (fun w => RC.refl w) rfl rfl rfl rfl (c := .int .u64 (lim m k : Int)) (fun w hw => by have := (hw.1.av aB.drew (by omega)).cell k _ (uc_get m k hk4); go_simp; first | done | rfl) (by simp only [Zs]; rfl) (gend ?_))
   refine gel (fun w => RC.refl w) rfl (relMove (fun w => RC.refl w) rfl rfl rfl rfl _ (.inl rfl) (by conv => lhs; whnf) (by simp only [Zs]; rfl) (gend ?_))
   refine gel (fun w => RC.refl w) rfl (relPure (fun w => RC.refl w) rfl rfl rfl rfl (c := .tuple #[.int .u64 (D : Int), .int .u64 (C : Int)]) (fun w _ => by have := LAW.out w; go_simp; first | done | rfl) (by simp only [Zs]; rfl) (gend ?_))
   refine gel (fun w => RC.refl w) rfl (relMove (fun w => RC.refl w) rfl rfl rfl rfl _ (.inl rfl) (by conv => lhs; whnf) (by simp only [Zs]; rfl) (gend ?_))
   refine gel (fun w => RC.refl w) rfl (relPure (fun w => RC.refl w) rfl rfl rfl rfl (c := .int .u64 (D : Int)) (fun w _ => by go_simp; first | done | rfl) (by simp only [Zs]; rfl) (gend ?_))
   refine gel (fun w => RC.refl w) rfl (relPure (fun w => RC.refl w) rfl rfl rfl rfl (c := .int .u64 (C : Int)) (fun w _ => by go_simp; first | done | rfl) (by simp only [Zs]; rfl) (gend ?_))
   refine gel (fun w => RC.refl w) rfl (relPure (fun w => RC.refl w) rfl rfl rfl rfl (c := .pointer (some ⟨H + 3, k, none⟩)) (fun w _ => by have := k0; have := k4; go_simp; first | done | rfl) (by simp only [Zs]; rfl) (gend ?_))
   refine gStore rfl rfl (fun w hw => RC.store ao.drew hw _ _ _ rfl k hlB hlC .u64 (D : Int) rfl rfl size_u64 hset.out hset2.out 13) ?_
   refine relEndG fun w6 hw6 hg => ?_
   simp only [List.drop_succ_cons, List.drop_zero]
   have a7 := hg (13, fun w' => Av w' (H + 3) 139 C1) (List.mem_singleton.2 rfl)
   have f7 := fr.trans (Fr.ofDrew hw6.1)
   dsimp only at a7
   rw [hC1.out] at a7
   replace a7 := Lib.hid a7
   replace f7 := Lib.hid f7
   clear ao fr aA aB bwr hwv hg hw6
   go_wp2
   refine ⟨⟨k + 1, by omega, by go_num, by rw [hC.out], a7.out, f7.out⟩, ?_⟩
   simp [intOf]; omega
  ·obtain rfl : k = 4 := by omega
   have tk : decide (((4 : Nat) : Int) < 4) = false := by decide
   obtain ⟨C0, hC0⟩ : ∃ C, C = bor n m 4 := ⟨_, rfl⟩
   rw [hall.out.1] at ao
   rw [← hC0]
   have tc := hall.out.2 C0 hC0
   have aR4 := fr.av aR (by omega)
   have bF : Below w.heap.size w wr := bW.trans (fr.below (B := w.heap.size) (fun j hj => by rw [hj, ← hH.out]; omega) (by rw [hWs, ← hH.out]; omega))
   have hHle : w.heap.size ≤ H + 2 := by rw [← hH.out]; omega
   clear hC0 hRR hBB aA aB aR hall
   go_wp2_with (first
    | ((with_reducible refine wpList_loadF 139 ao ?_ _ 4 rfl Tryd.underlying139 ?_ ?_ ?_); rfl; rfl; kernel_rfl)
    | ((with_reducible refine wpList_storeFA 139 bF aR4 hHle (uc RR) ?_ ?_ 4 rfl ?_ ?_ ?_ ?_); rfl; rfl; kernel_rfl; rfl; rfl; intro w4 a4 b4 k4 z4))
   refine bodyPost_ret (v := .tuple #[.agg (uc RR).toArray, .bool BB]) ((results_cellU (C := uc RR) (by rfl) (by rfl) a4 _ Tryd.underlying139 rfl 4 rfl (by kernel_rfl)).trans (by rfl)) (by rfl) ⟨rfl, b4⟩
end Go.Proofs.YtobjgebojhjhnaaDoor
