import Derived.Test.YtobjgebojhjhnaaDoorQr20
import Derived.Deep.CutRange
import Derived.IntWalk
namespace Go.Proofs.YtobjgebojhjhnaaDoor
open Go.RowKit
theorem wScript_twice (S : List (List UInt8)) (s : List UInt8) (h : (wScript S s).2 = 0) : (wScript (wScript S s).1 s).2 = 10 := by
 unfold wScript at h
 split at h
 ·cases h
 ·rename_i h1
  split at h
  ·cases h
  ·rename_i h2
   split at h
   ·cases h
   ·rename_i h3
    have e : wScript S s = (S ++ [s], 0) := by unfold wScript; rw [if_neg h1, if_neg h2, if_neg h3]
    rw [e]
    unfold wScript
    rw [if_pos (by simp)]
theorem wScript_code (S : List (List UInt8)) (s : List UInt8) (h : s.length ≤ 300) : (wScript S s).2 = 0 ∨ (wScript S s).2 = 10 ∨ ((wScript S s).2 = 12 ∧ 256 ≤ S.length) := by
 unfold wScript
 split
 ·exact .inr (.inl rfl)
 ·split
  ·omega
  ·split
   ·rename_i h3; exact .inr (.inr ⟨rfl, h3⟩)
   ·exact .inl rfl
theorem wScript_len (S : List (List UInt8)) (s : List UInt8) : (wScript S s).1.length ≤ S.length + 1 := by
 unfold wScript
 split
 ·exact Nat.le_succ _
 ·split
  ·exact Nat.le_succ _
  ·split
   ·exact Nat.le_succ _
   ·simp
def idOf (t : TTx) : List UInt8 × Nat := if txSane t then (dblB (txB t), 0) else (zeroH, 3)
theorem wNote_ok {S T : List (List UInt8)} {t : TTx} (h : T.length ≤ 60) : (wNote S T t).2 = (decide ((idOf t).2 = 0) && (txT t S T && !(T.contains (idOf t).1))) := by
 have h2 : decide (T.length < 4096) = true := by simp; omega
 unfold wNote noteB idOf
 rw [h2]
 cases txSane t
 ·simp
 ·simp only [Bool.true_and, Bool.and_true, if_true, decide_true]
  cases txT t S T <;> cases T.contains (dblB (txB t)) <;> simp
theorem wNote_T {S T : List (List UInt8)} {t : TTx} : (wNote S T t).1 = if (wNote S T t).2 then T ++ [(idOf t).1] else T := by
 unfold wNote
 cases h : noteB S T t with
 | false => simp
 | true =>
  have : txSane t = true := by
   unfold noteB at h
   simp only [Bool.and_eq_true] at h
   exact h.1.1.1
  simp [idOf, this]
theorem wNote_twice {S T : List (List UInt8)} {t : TTx} : (wNote S (wNote S T t).1 t).2 = false := by
 cases h : noteB S T t with
 | false =>
  have e : wNote S T t = (T, false) := by unfold wNote; rw [h]; rfl
  rw [e]
  show (wNote S T t).2 = false
  rw [e]
 | true =>
  have e : wNote S T t = (T ++ [dblB (txB t)], true) := by unfold wNote; rw [h]; rfl
  rw [e]
  have h3 : noteB S (T ++ [dblB (txB t)]) t = false := by
   unfold noteB
   simp
  show (wNote S (T ++ [dblB (txB t)]) t).2 = false
  unfold wNote
  rw [h3]
  rfl
theorem idOf_len (t : TTx) : (idOf t).1.length = 32 := by
 cases h : txSane t with
 | true =>
  have e : idOf t = (dblB (txB t), 0) := by unfold idOf; rw [if_pos h]
  rw [e]
  dsimp only
  exact dblB_length _
 | false =>
  have e : idOf t = (zeroH, 3) := by unfold idOf; rw [if_neg (by rw [h]; decide)]
  rw [e]
  dsimp only
  exact zeroH_length
theorem TIdU (ver lock : Nat) (hv : ver < 4294967296) (hlk : lock < 4294967296) (l : List (TIn × Sl)) (m : List (TOut × Sl)) (A1 A2 : Option Addr) (n1 n2 c1 c2 : Nat) (hn1 : l.length = n1) (hn2 : m.length = n2) (w : World) (h1 : RdIns w A1 l) (h2 : RdOuts w A2 m) (ht : Tabs w) :
  Calls Tryd.prog 22 #[.agg #[.int .u32 (ver : Int), .slice A1 n1 c1, .slice A2 n2 c2, .int .u32 (lock : Int)]] w fun e w' => e = .returned (.tuple #[.agg (hcs (idOf (txOf ver l m lock)).1), .int .i64 ((idOf (txOf ver l m lock)).2 : Int)]) ∧ Below w.heap.size w w' := by
 cases hs : txSane (txOf ver l m lock) with
 | true =>
  have e : idOf (txOf ver l m lock) = (dblB (txB (txOf ver l m lock)), 0) := by unfold idOf; rw [if_pos hs]
  rw [e]
  dsimp only
  exact TId_ok ver lock hv hlk l m A1 A2 n1 n2 c1 c2 hn1 hn2 w h1 h2 ht hs
 | false =>
  have e : idOf (txOf ver l m lock) = (zeroH, 3) := by unfold idOf; rw [if_neg (by rw [hs]; decide)]
  rw [e]
  dsimp only
  exact TId_bad ver lock hv hlk l m A1 A2 n1 n2 c1 c2 hn1 hn2 w h1 h2 ht hs
def OurW (ver lock n1 n2 : Nat) (l : List (TIn × Sl)) (m : List (TOut × Sl)) : VP := fun v w => ∃ (B1 B2 : Option Addr) (d1 d2 : Nat), v = .agg #[.int .u32 (ver : Int), .slice B1 n1 d1, .slice B2 n2 d2, .int .u32 (lock : Int)] ∧ RdIns w B1 l ∧ RdOuts w B2 m
theorem OurW.mono {ver lock n1 n2 : Nat} {l : List (TIn × Sl)} {m : List (TOut × Sl)} {v : Value} {w w' : World} (h : Ext w w') : OurW ver lock n1 n2 l m v w → OurW ver lock n1 n2 l m v w' := by
 rintro ⟨B1, B2, d1, d2, rfl, r1, r2⟩
 exact ⟨B1, B2, d1, d2, rfl, r1.below h, r2.below h⟩
def NotW (As An : Option Addr) (ns cs nn cn : Nat) (T : List (List UInt8)) (ok : Bool) : VP := fun v w => ∃ A' n' c', v = .tuple #[.agg (wtc As A' An ns cs n' c' nn cn).toArray, .bool ok] ∧ T.length = n' ∧ RdHs w A' T
theorem NotW.mono {As An : Option Addr} {ns cs nn cn : Nat} {T : List (List UInt8)} {ok : Bool} {v : Value} {w w' : World} (h : Ext w w') : NotW As An ns cs nn cn T ok v w → NotW As An ns cs nn cn T ok v w' := by
 rintro ⟨A', n', c', rfl, hl, r⟩
 exact ⟨A', n', c', rfl, hl, r.below h⟩
def NwtW (As An : Option Addr) (ns cs nn cn : Nat) (T : List (List UInt8)) : VP := fun v w => ∃ A' n' c', v = .agg (wtc As A' An ns cs n' c' nn cn).toArray ∧ T.length = n' ∧ RdHs w A' T
theorem NwtW.mono {As An : Option Addr} {ns cs nn cn : Nat} {T : List (List UInt8)} {v : Value} {w w' : World} (h : Ext w w') : NwtW As An ns cs nn cn T v w → NwtW As An ns cs nn cn T v w' := by
 rintro ⟨A', n', c', rfl, hl, r⟩
 exact ⟨A', n', c', rfl, hl, r.below h⟩
theorem RdHs.off {w w' : World} {A : Option Addr} {L : List (List UInt8)} {g : Nat} {t : TypeId} (r : RdHs w A L) (a : Av w g t [.slice none 0 0, .slice none 0 0, .slice none 0 0]) (f : Fr (fun k => k = g) w w') : RdHs w' A L := by
 cases L with
 | nil => exact RdHs.nil _ _
 | cons s L =>
  refine ⟨f.rd r.1 ?_, r.2⟩
  rintro ad hA hg
  have sok := r.2 s (List.mem_cons_self ..)
  obtain ⟨b, off, hA2⟩ := r.adr (by simp)
  rw [hA] at hA2
  injection hA2 with hA2
  subst hA2
  rw [hA] at r
  have rs := r.nth 0 s rfl
  obtain ⟨x, hx⟩ : ∃ x, s[0]? = some x := ⟨_, List.getElem?_eq_getElem (by rw [sok]; omega)⟩
  have h1 := rs 0 (bv x) (by rw [List.getElem?_map, hx]; rfl)
  have hb : b = g := hg
  subst hb
  rw [cell_of_row w b _ _ t _ a] at h1
  simp only [Nat.zero_mul, Nat.add_zero, List.getElem?_toArray] at h1
  have hm := List.mem_of_getElem? h1
  simp [bv] at hm
def mWat (T : List (List UInt8)) (x : List UInt8) (k : Nat) : Bool := (T.take k).any fun t => t == x
theorem mWat_step {T : List (List UInt8)} {x : List UInt8} {k : Nat} {t : List UInt8} (h : T[k]? = some t) : mWat T x (k + 1) = (mWat T x k || (t == x)) := by
 unfold mWat
 rw [List.take_add_one, h]
 simp
theorem mWat_end {T : List (List UInt8)} {x : List UInt8} : mWat T x T.length = T.contains x := by
 unfold mWat
 rw [List.take_length, Bool.eq_iff_iff, List.any_eq_true, List.contains_iff_mem]
 constructor
 ·rintro ⟨t, h1, h2⟩
  rw [← eq_of_beq h2]
  exact h1
 ·intro h
  exact ⟨x, h, by simp⟩
set_option maxRecDepth 100000 in
set_option maxHeartbeats 8000000 in
theorem wnot_far (S : List (List UInt8 × Sl)) (As At An : Option Addr) (ns cs nt ct nn cn : Nat) (hS : S.length = ns) (hns : ns ≤ maxLen) (T : List (List UInt8)) (hT : T.length = nt) (N : List Sn) (hN : N.length = nn)
  (ver lock : Nat) (_ : ver < 4294967296) (_ : lock < 4294967296) (l : List (TIn × Sl)) (m : List (TOut × Sl)) (A1 A2 : Option Addr) (n1 n2 c1 c2 : Nat) (hn1 : l.length = n1) (hn2 : m.length = n2) (hm1 : n1 ≤ maxLen) (hm2 : n2 ≤ maxLen) (sb : List UInt8) (B : Option Addr) (q d : Nat) (hq : sb.length = q)
  (w : World) (ht : Tabs w) (rS : RdBss w As S) (_ : RdHs w At T) (_ : RdSns w An N) (rI : RdIns w A1 l) (rO : RdOuts w A2 m) (_ : Rd w B (sb.map bv)) (hfar : ¬ (wFew (S.map (·.1)) nt nn = true ∧ txFew (txOf ver l m lock) = true ∧ q ≤ 300)) :
  Calls Tryd.prog 4 #[.agg (wtc As At An ns cs nt ct nn cn).toArray, .agg #[.int .u32 (ver : Int), .slice A1 n1 c1, .slice A2 n2 c2, .int .u32 (lock : Int)], .slice B q d] w fun e w' => e = .returned (.bool true) ∧ Below w.heap.size w w' := by
 by_cases hfew : wFew (S.map (·.1)) nt nn = true
 ·by_cases ht8 : txFew (txOf ver l m lock) = true
  ·have h3 : 300 < q := by
    rcases Nat.lt_or_ge 300 q with z | z
    ·exact z
    ·exact absurd ⟨hfew, ht8, z⟩ hfar
   have t3 : decide ((300 : Int) < (q : Int)) = true := by simp; omega
   have t3' : decide (300 < q) = true := by simp; omega
   clear hfar
   replace hfew := Lib.hid hfew
   replace ht8 := Lib.hid ht8
   have HA := fun w' t => awake21 w' t
   have HF := fun w' r => WFew S As At An ns cs nt ct nn cn hS hns w' r
   have HF8 := fun w' r1 r2 => TFew ver lock l m A1 A2 n1 n2 c1 c2 hn1 hn2 hm1 hm2 w' r1 r2
   rw [hfew.out] at HF
   rw [ht8.out] at HF8
   obtain ⟨W, hW⟩ : ∃ W, W = (w.alloc (.cells (wtc As At An ns cs nt ct nn cn).toArray 26)).alloc (.cells ([.int .u32 (ver : Int), .slice A1 n1 c1, .slice A2 n2 c2, .int .u32 (lock : Int)] : List Value).toArray 66) := ⟨_, rfl⟩
   obtain ⟨H, hH⟩ : ∃ H, H = w.heap.size := ⟨_, rfl⟩
   have aW : Av W H 26 (wtc As At An ns cs nt ct nn cn) := by rw [hW, hH]; exact heap_alloc2_old _ _ _
   have xW : Av W (H + 1) 66 ([.int .u32 (ver : Int), .slice A1 n1 c1, .slice A2 n2 c2, .int .u32 (lock : Int)] : List Value) := by rw [hW, hH]; exact heap_alloc2_new _ _ _
   have bW : Below w.heap.size w W := by rw [hW]; exact ((Below.refl _ _).alloc (Nat.le_refl _) _).alloc (by simp) _
   have htW := ht.below bW
   have rSW := rS.below bW
   replace HA := Lib.hid HA
   replace HF := Lib.hid HF
   replace HF8 := Lib.hid HF8
   replace hW := Lib.hid hW
   replace hH := Lib.hid hH
   replace hS := Lib.hid hS
   replace hT := Lib.hid hT
   replace hN := Lib.hid hN
   replace hn1 := Lib.hid hn1
   replace hn2 := Lib.hid hn2
   replace hq := Lib.hid hq
   go_enter Tryd.func4, Tryd.ntmps4
   go_upto_region 1 with fail
   rw [← hH.out]
   rw [show (w.alloc (.cells (wtc As At An ns cs nt ct nn cn).toArray 26)).alloc (.cells #[.int .u32 (ver : Int), .slice A1 n1 c1, .slice A2 n2 c2, .int .u32 (lock : Int)] 66) = W from hW.out.symm]
   go_upto_region 2 with (go_at_call 9; refine (HA.out W htW).mono ?_; rintro e w1 ⟨rfl, b1⟩)
   have a1 := aW.below b1
   have x1 := xW.below b1
   have rS1 := rSW.below b1
   have B1 := bW.trans (b1.mono bW.size)
   have rI1 := rI.below B1
   have rO1 := rO.below B1
   have l3 : (wtc As At An ns cs nt ct nn cn).length = 3 := rfl
   go_wp2_with (first
    | ((with_reducible refine wpList_loadF 26 a1 ?_ _ 3 l3 Tryd.underlying26 ?_ ?_ ?_); rfl; rfl; kernel_rfl)
    | (go_at_call 10; refine (HF.out w1 rS1).mono ?_; rintro e2 w2 ⟨rfl, b2⟩; have x2 := x1.below b2; have rI2 := rI1.below b2; have rO2 := rO1.below b2)
    | ((with_reducible refine wpList_loadG 66 x2 ?_ ?_ _ 4 rfl Tryd.underlying66 ?_ ?_ ?_); rfl; rfl; rfl; kernel_rfl)
    | (go_at_call 18; refine (HF8.out w2 rI2 rO2).mono ?_; rintro e3 w3 ⟨rfl, b3⟩))
   go_ret
   exact ⟨rfl, ((B1.trans (b2.mono B1.size)).trans (b3.mono (B1.trans (b2.mono B1.size)).size))⟩
  ·rw [Bool.not_eq_true] at ht8
   clear hfar
   replace hfew := Lib.hid hfew
   replace ht8 := Lib.hid ht8
   have HA := fun w' t => awake21 w' t
   have HF := fun w' r => WFew S As At An ns cs nt ct nn cn hS hns w' r
   have HF8 := fun w' r1 r2 => TFew ver lock l m A1 A2 n1 n2 c1 c2 hn1 hn2 hm1 hm2 w' r1 r2
   rw [hfew.out] at HF
   rw [ht8.out] at HF8
   obtain ⟨W, hW⟩ : ∃ W, W = (w.alloc (.cells (wtc As At An ns cs nt ct nn cn).toArray 26)).alloc (.cells ([.int .u32 (ver : Int), .slice A1 n1 c1, .slice A2 n2 c2, .int .u32 (lock : Int)] : List Value).toArray 66) := ⟨_, rfl⟩
   obtain ⟨H, hH⟩ : ∃ H, H = w.heap.size := ⟨_, rfl⟩
   have aW : Av W H 26 (wtc As At An ns cs nt ct nn cn) := by rw [hW, hH]; exact heap_alloc2_old _ _ _
   have xW : Av W (H + 1) 66 ([.int .u32 (ver : Int), .slice A1 n1 c1, .slice A2 n2 c2, .int .u32 (lock : Int)] : List Value) := by rw [hW, hH]; exact heap_alloc2_new _ _ _
   have bW : Below w.heap.size w W := by rw [hW]; exact ((Below.refl _ _).alloc (Nat.le_refl _) _).alloc (by simp) _
   have htW := ht.below bW
   have rSW := rS.below bW
   replace HA := Lib.hid HA
   replace HF := Lib.hid HF
   replace HF8 := Lib.hid HF8
   replace hW := Lib.hid hW
   replace hH := Lib.hid hH
   replace hS := Lib.hid hS
   replace hT := Lib.hid hT
   replace hN := Lib.hid hN
   replace hn1 := Lib.hid hn1
   replace hn2 := Lib.hid hn2
   replace hq := Lib.hid hq
   go_enter Tryd.func4, Tryd.ntmps4
   go_upto_region 1 with fail
   rw [← hH.out]
   rw [show (w.alloc (.cells (wtc As At An ns cs nt ct nn cn).toArray 26)).alloc (.cells #[.int .u32 (ver : Int), .slice A1 n1 c1, .slice A2 n2 c2, .int .u32 (lock : Int)] 66) = W from hW.out.symm]
   go_upto_region 2 with (go_at_call 9; refine (HA.out W htW).mono ?_; rintro e w1 ⟨rfl, b1⟩)
   have a1 := aW.below b1
   have x1 := xW.below b1
   have rS1 := rSW.below b1
   have B1 := bW.trans (b1.mono bW.size)
   have rI1 := rI.below B1
   have rO1 := rO.below B1
   have l3 : (wtc As At An ns cs nt ct nn cn).length = 3 := rfl
   go_wp2_with (first
    | ((with_reducible refine wpList_loadF 26 a1 ?_ _ 3 l3 Tryd.underlying26 ?_ ?_ ?_); rfl; rfl; kernel_rfl)
    | (go_at_call 10; refine (HF.out w1 rS1).mono ?_; rintro e2 w2 ⟨rfl, b2⟩; have x2 := x1.below b2; have rI2 := rI1.below b2; have rO2 := rO1.below b2)
    | ((with_reducible refine wpList_loadG 66 x2 ?_ ?_ _ 4 rfl Tryd.underlying66 ?_ ?_ ?_); rfl; rfl; rfl; kernel_rfl)
    | (go_at_call 18; refine (HF8.out w2 rI2 rO2).mono ?_; rintro e3 w3 ⟨rfl, b3⟩))
   go_ret
   exact ⟨rfl, ((B1.trans (b2.mono B1.size)).trans (b3.mono (B1.trans (b2.mono B1.size)).size))⟩
 ·rw [Bool.not_eq_true] at hfew
  clear hfar
  have HA := fun w' t => awake21 w' t
  have HF := fun w' r => WFew S As At An ns cs nt ct nn cn hS hns w' r
  have HF8 := fun w' r1 r2 => TFew ver lock l m A1 A2 n1 n2 c1 c2 hn1 hn2 hm1 hm2 w' r1 r2
  rw [hfew] at HF
  clear hfew
  obtain ⟨W, hW⟩ : ∃ W, W = (w.alloc (.cells (wtc As At An ns cs nt ct nn cn).toArray 26)).alloc (.cells ([.int .u32 (ver : Int), .slice A1 n1 c1, .slice A2 n2 c2, .int .u32 (lock : Int)] : List Value).toArray 66) := ⟨_, rfl⟩
  obtain ⟨H, hH⟩ : ∃ H, H = w.heap.size := ⟨_, rfl⟩
  have aW : Av W H 26 (wtc As At An ns cs nt ct nn cn) := by rw [hW, hH]; exact heap_alloc2_old _ _ _
  have xW : Av W (H + 1) 66 ([.int .u32 (ver : Int), .slice A1 n1 c1, .slice A2 n2 c2, .int .u32 (lock : Int)] : List Value) := by rw [hW, hH]; exact heap_alloc2_new _ _ _
  have bW : Below w.heap.size w W := by rw [hW]; exact ((Below.refl _ _).alloc (Nat.le_refl _) _).alloc (by simp) _
  have htW := ht.below bW
  have rSW := rS.below bW
  replace HA := Lib.hid HA
  replace HF := Lib.hid HF
  replace HF8 := Lib.hid HF8
  replace hW := Lib.hid hW
  replace hH := Lib.hid hH
  replace hS := Lib.hid hS
  replace hT := Lib.hid hT
  replace hN := Lib.hid hN
  replace hn1 := Lib.hid hn1
  replace hn2 := Lib.hid hn2
  replace hq := Lib.hid hq
  go_enter Tryd.func4, Tryd.ntmps4
  go_upto_region 1 with fail
  rw [← hH.out]
  rw [show (w.alloc (.cells (wtc As At An ns cs nt ct nn cn).toArray 26)).alloc (.cells #[.int .u32 (ver : Int), .slice A1 n1 c1, .slice A2 n2 c2, .int .u32 (lock : Int)] 66) = W from hW.out.symm]
  go_upto_region 2 with (go_at_call 9; refine (HA.out W htW).mono ?_; rintro e w1 ⟨rfl, b1⟩)
  have a1 := aW.below b1
  have x1 := xW.below b1
  have rS1 := rSW.below b1
  have B1 := bW.trans (b1.mono bW.size)
  have rI1 := rI.below B1
  have rO1 := rO.below B1
  have l3 : (wtc As At An ns cs nt ct nn cn).length = 3 := rfl
  go_wp2_with (first
   | ((with_reducible refine wpList_loadF 26 a1 ?_ _ 3 l3 Tryd.underlying26 ?_ ?_ ?_); rfl; rfl; kernel_rfl)
   | (go_at_call 10; refine (HF.out w1 rS1).mono ?_; rintro e2 w2 ⟨rfl, b2⟩; have x2 := x1.below b2; have rI2 := rI1.below b2; have rO2 := rO1.below b2)
   | ((with_reducible refine wpList_loadG 66 x2 ?_ ?_ _ 4 rfl Tryd.underlying66 ?_ ?_ ?_); rfl; rfl; rfl; kernel_rfl)
   | (go_at_call 18; refine (HF8.out w2 rI2 rO2).mono ?_; rintro e3 w3 ⟨rfl, b3⟩))
  go_ret
  exact ⟨rfl, (B1.trans (b2.mono B1.size))⟩
set_option maxRecDepth 100000 in
set_option maxHeartbeats 16000000 in
theorem wnot_main (S : List (List UInt8 × Sl)) (As At An : Option Addr) (ns cs nt ct nn cn : Nat) (hS : S.length = ns) (hns : ns ≤ maxLen) (T : List (List UInt8)) (hT : T.length = nt) (N : List Sn) (hN : N.length = nn)
  (ver lock : Nat) (hv : ver < 4294967296) (hlk : lock < 4294967296) (l : List (TIn × Sl)) (m : List (TOut × Sl)) (A1 A2 : Option Addr) (n1 n2 c1 c2 : Nat) (hn1 : l.length = n1) (hn2 : m.length = n2) (hm1 : n1 ≤ maxLen) (hm2 : n2 ≤ maxLen) (sb : List UInt8) (B : Option Addr) (q d : Nat) (hq : sb.length = q)
  (w : World) (ht : Tabs w) (rS : RdBss w As S) (rT : RdHs w At T) (rN : RdSns w An N) (rI : RdIns w A1 l) (rO : RdOuts w A2 m) (rB : Rd w B (sb.map bv)) (hfew : wFew (S.map (·.1)) nt nn = true) (hfew8 : txFew (txOf ver l m lock) = true) (hq3 : q ≤ 300) :
  Calls Tryd.prog 4 #[.agg (wtc As At An ns cs nt ct nn cn).toArray, .agg #[.int .u32 (ver : Int), .slice A1 n1 c1, .slice A2 n2 c2, .int .u32 (lock : Int)], .slice B q d] w fun e w' => e = .returned (.bool true) ∧ Below w.heap.size w w' := by
 obtain ⟨_, hns3, hnt60, hnn60⟩ := wFew_iff.1 hfew
 obtain ⟨_, _, hi20, ho20⟩ := (txFew_iff _).1 hfew8
 have hns300 : ns ≤ 300 := by rw [← hS]; simpa using hns3
 have hn120 : n1 ≤ 20 := by rw [← hn1]; simpa [txOf] using hi20
 have hn220 : n2 ≤ 20 := by rw [← hn2]; simpa [txOf] using ho20
 clear hns3 hi20 ho20
 have t3 : decide ((300 : Int) < (q : Int)) = false := by simp; omega
 have t3' : decide (300 < q) = false := by simp; omega
 obtain ⟨tx, htx⟩ : ∃ tx, tx = txOf ver l m lock := ⟨_, rfl⟩
 have HE := fun w' r => Eye As At An ns cs nt ct nn cn N hN (by omega) w' r
 have HO := fun w' r1 r2 => TOurs ver lock hv hlk l m A1 A2 n1 n2 c1 c2 hn1 hn2 (by omega) (by omega) w' r1 r2
 have HS1 := fun A3 c3 w' r1 r2 => WScript S As At A3 ns cs nt ct nn c3 hS (by omega) sb B q d hq w' r1 r2
 obtain ⟨S1, e, hes⟩ : ∃ S1 e, wScript (S.map (·.1)) sb = (S1, e) := ⟨_, _, rfl⟩
 rw [hes] at HS1
 dsimp only at HS1
 have hcode := wScript_code (S.map (·.1)) sb (by rw [hq]; exact hq3)
 have htwice := wScript_twice (S.map (·.1)) sb
 have hS1l := wScript_len (S.map (·.1)) sb
 rw [hes] at hcode htwice hS1l
 simp only [List.length_map, hS] at hcode hS1l
 dsimp only at htwice
 obtain ⟨S2, f, hfs⟩ : ∃ S2 f, wScript S1 sb = (S2, f) := ⟨_, _, rfl⟩
 rw [hfs] at htwice
 dsimp only at htwice
 replace hfew := Lib.hid hfew
 replace hfew8 := Lib.hid hfew8
 replace htx := Lib.hid htx
 replace hes := Lib.hid hes
 replace hfs := Lib.hid hfs
 replace HE := Lib.hid HE
 replace HO := Lib.hid HO
 replace HS1 := Lib.hid HS1
 replace htwice := Lib.hid htwice
 replace hcode := Lib.hid hcode
 have HA := fun w' t => awake21 w' t
 have HF := fun w' r => WFew S As At An ns cs nt ct nn cn hS hns w' r
 have HF8 := fun w' r1 r2 => TFew ver lock l m A1 A2 n1 n2 c1 c2 hn1 hn2 hm1 hm2 w' r1 r2
 rw [hfew.out] at HF
 rw [hfew8.out] at HF8
 obtain ⟨W, hW⟩ : ∃ W, W = (w.alloc (.cells (wtc As At An ns cs nt ct nn cn).toArray 26)).alloc (.cells ([.int .u32 (ver : Int), .slice A1 n1 c1, .slice A2 n2 c2, .int .u32 (lock : Int)] : List Value).toArray 66) := ⟨_, rfl⟩
 obtain ⟨H, hH⟩ : ∃ H, H = w.heap.size := ⟨_, rfl⟩
 have aW : Av W H 26 (wtc As At An ns cs nt ct nn cn) := by rw [hW, hH]; exact heap_alloc2_old _ _ _
 have xW : Av W (H + 1) 66 ([.int .u32 (ver : Int), .slice A1 n1 c1, .slice A2 n2 c2, .int .u32 (lock : Int)] : List Value) := by rw [hW, hH]; exact heap_alloc2_new _ _ _
 have bW : Below w.heap.size w W := by rw [hW]; exact ((Below.refl _ _).alloc (Nat.le_refl _) _).alloc (by simp) _
 have htW := ht.below bW
 have rSW := rS.below bW
 replace HA := Lib.hid HA
 replace HF := Lib.hid HF
 replace HF8 := Lib.hid HF8
 replace hW := Lib.hid hW
 replace hH := Lib.hid hH
 replace hS := Lib.hid hS
 replace hT := Lib.hid hT
 replace hN := Lib.hid hN
 replace hn1 := Lib.hid hn1
 replace hn2 := Lib.hid hn2
 replace hq := Lib.hid hq
 go_enter Tryd.func4, Tryd.ntmps4
 go_upto_region 1 with fail
 rw [← hH.out]
 rw [show (w.alloc (.cells (wtc As At An ns cs nt ct nn cn).toArray 26)).alloc (.cells #[.int .u32 (ver : Int), .slice A1 n1 c1, .slice A2 n2 c2, .int .u32 (lock : Int)] 66) = W from hW.out.symm]
 go_upto_region 2 with (go_at_call 9; refine (HA.out W htW).mono ?_; rintro e w1 ⟨rfl, b1⟩)
 have a1 := aW.below b1
 have x1 := xW.below b1
 have rS1 := rSW.below b1
 have B1 := bW.trans (b1.mono bW.size)
 have rI1 := rI.below B1
 have rO1 := rO.below B1
 have l3 : (wtc As At An ns cs nt ct nn cn).length = 3 := rfl
 go_upto_region 4 with (first
  | ((with_reducible refine wpList_loadF 26 a1 ?_ _ 3 l3 Tryd.underlying26 ?_ ?_ ?_); rfl; rfl; kernel_rfl)
  | (go_at_call 10; refine (HF.out w1 rS1).mono ?_; rintro e2 w2 ⟨rfl, b2⟩; have x2 := x1.below b2; have rI2 := rI1.below b2; have rO2 := rO1.below b2)
  | ((with_reducible refine wpList_loadG 66 x2 ?_ ?_ _ 4 rfl Tryd.underlying66 ?_ ?_ ?_); rfl; rfl; rfl; kernel_rfl)
  | (go_at_call 18; refine (HF8.out w2 rI2 rO2).mono ?_; rintro e3 w3 ⟨rfl, b3⟩))
 have B3 := (B1.trans (b2.mono B1.size)).trans (b3.mono (B1.trans (b2.mono B1.size)).size)
 have a3 := (a1.below b2).below b3
 have x3 := x2.below b3
 have rN3 := rN.below B3
 clear a1 x1 x2 b1 b2 b3 rS1 rI1 rO1 rI2 rO2 aW xW rSW htW HF HF8 HA
 go_upto_region 5 with (first
  | ((with_reducible refine wpList_loadF 26 a3 ?_ _ 3 l3 Tryd.underlying26 ?_ ?_ ?_); rfl; rfl; kernel_rfl)
  | (go_at_call 13; refine (HE.out w3 rN3).mono ?_; rintro e4 w4 ⟨A3, c3, rfl, rE4, b4⟩; have B4 := B3.trans (b4.mono B3.size); have rS4 := rS.below B4; have rB4 := rB.below B4)
  | (go_at_call 19; refine (HS1.out A3 c3 w4 rS4 rB4).mono ?_; rintro e5 w5 ⟨A5, n5, c5, S5, rfl, hS5, rS5, hm5, b5⟩; have wone5 := wtc_one A5 At A3 n5 c5 nt ct nn c3)
  | ((with_reducible refine wpList_storeF 42 ((Below.refl w5.heap.size w5).alloc (Nat.le_refl _) _) (heap_alloc_new _ _) (Nat.le_refl _) (wtc A5 At A3 n5 c5 nt ct nn c3) ?_ ?_ 3 rfl ?_ ?_ ?_ ?_); rfl; rfl; kernel_rfl; rfl; exact wone5; intro w6 a6 b6 k6 z6; clear k6; replace z6 := Lib.hid z6))
 obtain ⟨GA, hGA⟩ : ∃ G, G = w5.heap.size := ⟨_, rfl⟩
 rw [← hGA] at a6 ⊢
 replace hGA := Lib.hid hGA
 have b36 := b4.trans ((b5.trans (b6.mono b5.size)).mono b4.size)
 have B6 := B3.trans (b36.mono B3.size)
 have w6a := a3.below b36
 have x6 := x3.below b36
 have S6 := rS5.below b6
 have rB6 := rB.below B6
 have hn5 : n5 ≤ 301 := by have := congrArg List.length hm5; rw [List.length_map, hS5] at this; omega
 have HS2 := fun w' r1 r2 => WScript S5 A5 At A3 n5 c5 nt ct nn c3 hS5 (by omega) sb B q d hq.out w' r1 r2
 rw [hm5, hfs.out] at HS2
 dsimp only at HS2
 have l3a : (wtc A5 At A3 n5 c5 nt ct nn c3).length = 3 := rfl
 replace HS2 := Lib.hid HS2
 replace hS5 := Lib.hid hS5
 replace hm5 := Lib.hid hm5
 clear b4 b5 b6 a3 x3 rE4 rS4 rB4 rS5 HE HS1 b36 wone5 B4 rN3
 go_upto_region 6 with (first
  | ((with_reducible refine wpList_loadF 42 a6 ?_ _ 3 l3a Tryd.underlying42 ?_ ?_ ?_); rfl; rfl; kernel_rfl)
  | (go_at_call 19; refine (HS2.out w6 S6 rB6).mono ?_; rintro e7 w7 ⟨A7, n7, c7, S7, rfl, _, _, _, b7⟩; have wone7 := wtc_one A7 At A3 n7 c7 nt ct nn c3)
  | ((with_reducible refine wpList_storeF 42 ((Below.refl w7.heap.size w7).alloc (Nat.le_refl _) _) (heap_alloc_new _ _) (Nat.le_refl _) (wtc A7 At A3 n7 c7 nt ct nn c3) ?_ ?_ 3 rfl ?_ ?_ ?_ ?_); rfl; rfl; kernel_rfl; rfl; exact wone7; intro w8 a8' b8 k8 z8; clear k8 a8'; replace z8 := Lib.hid z8))
 have b68 := b7.trans (b8.mono b7.size)
 have B8 := B6.trans (b68.mono B6.size)
 have a8 := a6.below b68
 have h8 := w6a.below b68
 have x8 := x6.below b68
 have S8 := S6.below b68
 have T8 := rT.below B8
 have t8 := ht.below B8
 have rI8 := rI.below B8
 have rO8 := rO.below B8
 clear b7 b8 a6 w6a x6 S6 rB6 HS2 b68 wone7
 have HN1 := fun B1 B2 d1 d2 w' t r1 r2 rs rt => WNote ver lock hv hlk l m B1 B2 n1 n2 d1 d2 hn1.out hn2.out S5 A5 At A3 n5 c5 nt ct nn c3 hS5.out (by omega) T hT.out (by omega) w' t r1 r2 rs rt
 obtain ⟨T1, ok, hnt1⟩ : ∃ T1 ok, wNote S1 T tx = (T1, ok) := ⟨_, _, rfl⟩
 rw [hm5.out, ← htx.out, hnt1] at HN1
 dsimp only at HN1
 have hok := wNote_ok (S := S1) (T := T) (t := tx) (by rw [hT.out]; exact hnt60)
 have hT1 := wNote_T (S := S1) (T := T) (t := tx)
 have htw := wNote_twice (S := S1) (T := T) (t := tx)
 rw [hnt1] at hok hT1 htw
 dsimp only at hok hT1 htw
 replace HN1 := Lib.hid HN1
 replace hnt1 := Lib.hid hnt1
 replace hok := Lib.hid hok
 replace hT1 := Lib.hid hT1
 replace htw := Lib.hid htw
 refine wp_region_relL [(6, 8)] 8 [(2, OurW ver lock n1 n2 l m), (3, NotW A5 A3 n5 c5 nn c3 T1 ok), (4, NotW A5 A3 n5 c5 nn c3 T1 ok), (5, NwtW A5 A3 n5 c5 nn c3 T1), (7, AlcW w8.heap.size)] Ext (by kernel_rfl) (by simp only [lates, late, List.push_toArray, List.cons_append, List.nil_append]; rfl) (by kernel_rfl) (fun _ _ _ _ _ h => h) (by kernel_rfl) (by kernel_rfl) (by kernel_rfl) (by kernel_rfl) Ext.refl Ext.trans (by intro p hp v w w' hR; simp only [List.mem_cons, List.not_mem_nil, or_false] at hp; rcases hp with rfl | rfl | rfl | rfl | rfl; exact OurW.mono hR; exact NotW.mono hR; exact NotW.mono hR; exact NwtW.mono hR; exact AlcW.mono hR) ?_
 refine ZP (c := .agg (wtc A5 At A3 n5 c5 nt ct nn c3).toArray) (fun w hw => exec_loadAv (a8.below hw.drew) _ _ rfl rfl _ 3 rfl Tryd.underlying42 rfl (by kernel_rfl)) ?_
 refine ZP (c := .agg ([.int .u32 (ver : Int), .slice A1 n1 c1, .slice A2 n2 c2, .int .u32 (lock : Int)] : List Value).toArray) (fun w hw => exec_loadAv (x8.below hw.drew) _ _ rfl rfl _ 4 rfl Tryd.underlying66 rfl (by kernel_rfl)) ?_
 refine relWord _ rfl (fun w hw => fill_none rfl (relOp_yes rfl (relRes_enterW 21 #[.agg ([.int .u32 (ver : Int), .slice A1 n1 c1, .slice A2 n2 c2, .int .u32 (lock : Int)] : List Value).toArray] (by go_simp) ((HO.out w (rI8.below hw.drew) (rO8.below hw.drew)).mono ?_)))) ?_
 ·rintro e w' ⟨B1, B2, d1, d2, rfl, _, _, r1, r2, b'⟩
  exact ⟨_, rfl, b', B1, B2, d1, d2, rfl, r1, r2⟩
 refine relWord _ rfl (fun w hw => fill_take rfl rfl fun v hv => fill_none rfl (relOp_yes rfl ?_)) ?_
 ·obtain ⟨B1, B2, d1, d2, rfl, r1, r2⟩ := hv
  refine relRes_enterW 20 #[.agg (wtc A5 At A3 n5 c5 nt ct nn c3).toArray, .agg #[.int .u32 (ver : Int), .slice B1 n1 d1, .slice B2 n2 d2, .int .u32 (lock : Int)]] (by go_simp) ((HN1.out B1 B2 d1 d2 w (t8.below hw.drew) r1 r2 (S8.below hw.drew) (T8.below hw.drew)).mono ?_)
  rintro e w' ⟨A', n', c', rfl, hl2, r3, b3⟩
  exact ⟨_, rfl, b3, A', n', c', rfl, hl2, r3⟩
 refine relWord _ rfl (fun w hw => fill_skip rfl (fill_take rfl rfl fun v hv => fill_none rfl (relOp_yes rfl ?_))) ?_
 ·exact ⟨Ext.refl _, hv⟩
 refine relWord _ rfl (fun w hw => fill_skip rfl (fill_skip rfl (fill_take rfl rfl fun v hv => fill_none rfl (relOp_yes rfl ?_)))) ?_
 ·obtain ⟨A', n', c', rfl, hl2, r2⟩ := hv
  exact ⟨Ext.refl _, A', n', c', rfl, hl2, r2⟩
 refine relOn rfl rfl (c := .bool ok) (fun w hw => fill_skip rfl (fill_skip rfl (fill_take rfl rfl fun v hv => fill_none rfl (relOp_yes rfl ?_)))) (by simp only [Zs]; rfl) ?_
 ·obtain ⟨A', n', c', rfl, hl2, r2⟩ := hv
  exact ⟨Ext.refl _, rfl⟩
 refine relWord _ rfl (fun w hw => fill_none rfl (relOp_yes rfl ?_)) ?_
 ·exact ⟨(Below.refl _ _).alloc (Nat.le_refl _) _, w.heap.size, rfl, hw.drew.size, heap_alloc_new _ _⟩
 refine relEnd fun w9 hw9 => fill_take rfl rfl fun v1 hv1 => fill_take rfl rfl fun v2 hv2 => fill_take rfl rfl fun v3 hv3 => fill_take rfl rfl fun v4 hv4 => fill_take rfl rfl fun v5 hv5 => fill_end ?_
 obtain ⟨A8, n8, c8, rfl, hl9, r9⟩ := hv4
 obtain ⟨G12, rfl, hG9, z9⟩ := hv5
 clear hv1 hv2 hv3
 simp only [List.set_cons_succ, List.set_cons_zero, List.drop_succ_cons, List.drop_zero]
 have b9 : Below w8.heap.size w8 w9 := hw9.drew
 have wone9 := wtc_one A5 A8 A3 n5 c5 n8 c8 nn c3
 have l9 : (wtc A5 A8 A3 n5 c5 n8 c8 nn c3).length = 3 := rfl
 go_upto_region 7 with ((with_reducible refine wpList_storeFA 42 b9 z9 hG9 (wtc A5 A8 A3 n5 c5 n8 c8 nn c3) ?_ ?_ 3 l9 ?_ ?_ ?_ ?_); rfl; rfl; kernel_rfl; rfl; exact wone9; intro w10 u10 bw10 kw10 zw10)
 have fw10 : Fr (fun k => k = G12) w9 w10 := ⟨bw10.os.trans b9.os.symm, bw10.tape.trans b9.tape.symm, bw10.output.trans b9.output.symm, by rw [zw10]; exact Nat.le_refl _, fun k _ hk => kw10 k hk⟩
 have R9 := r9.off z9 fw10
 clear b9 fw10 kw10 zw10 r9 z9
 have B10 := B8.trans (bw10.mono B8.size)
 have hn8 : n8 ≤ 61 := by
  have := congrArg List.length hT1.out
  rw [hl9] at this
  split at this
  ·rw [List.length_append, hT.out] at this; simp at this; omega
  ·rw [hT.out] at this; omega
 have a10 := a8.below bw10
 have h10 := h8.below bw10
 have x10 := x8.below bw10
 have S10 := S8.below bw10
 have T10 := R9
 have t10 := t8.below bw10
 have rI10 := rI8.below bw10
 have rO10 := rO8.below bw10
 clear a8 h8 x8 S8 T8 t8 rI8 rO8 HN1 bw10
 have HN2 := fun B1 B2 d1 d2 w' t r1 r2 rs rt => WNote ver lock hv hlk l m B1 B2 n1 n2 d1 d2 hn1.out hn2.out S5 A5 A8 A3 n5 c5 n8 c8 nn c3 hS5.out (by omega) T1 hl9 (by omega) w' t r1 r2 rs rt
 obtain ⟨T2, hnt2⟩ : ∃ T2, wNote S1 T1 tx = (T2, false) := ⟨_, Prod.ext rfl htw.out⟩
 rw [hm5.out, ← htx.out, hnt2] at HN2
 dsimp only at HN2
 replace HN2 := Lib.hid HN2
 replace hnt2 := Lib.hid hnt2
 replace hl9 := Lib.hid hl9
 refine wp_region_relL [(6, 8)] 8 [(2, OurW ver lock n1 n2 l m), (3, NotW A5 A3 n5 c5 nn c3 T2 false), (4, NotW A5 A3 n5 c5 nn c3 T2 false), (5, NwtW A5 A3 n5 c5 nn c3 T2), (7, AlcW w10.heap.size)] Ext (by kernel_rfl) (by simp only [lates, late, List.push_toArray, List.cons_append, List.nil_append]; rfl) (by kernel_rfl) (fun _ _ _ _ _ h => h) (by kernel_rfl) (by kernel_rfl) (by kernel_rfl) (by kernel_rfl) Ext.refl Ext.trans (by intro p hp v w w' hR; simp only [List.mem_cons, List.not_mem_nil, or_false] at hp; rcases hp with rfl | rfl | rfl | rfl | rfl; exact OurW.mono hR; exact NotW.mono hR; exact NotW.mono hR; exact NwtW.mono hR; exact AlcW.mono hR) ?_
 refine ZP (c := .agg (wtc A5 A8 A3 n5 c5 n8 c8 nn c3).toArray) (fun w hw => exec_loadAv (u10.below hw.drew) _ _ rfl rfl _ 3 rfl Tryd.underlying42 rfl (by kernel_rfl)) ?_
 refine ZP (c := .agg ([.int .u32 (ver : Int), .slice A1 n1 c1, .slice A2 n2 c2, .int .u32 (lock : Int)] : List Value).toArray) (fun w hw => exec_loadAv (x10.below hw.drew) _ _ rfl rfl _ 4 rfl Tryd.underlying66 rfl (by kernel_rfl)) ?_
 refine relWord _ rfl (fun w hw => fill_none rfl (relOp_yes rfl (relRes_enterW 21 #[.agg ([.int .u32 (ver : Int), .slice A1 n1 c1, .slice A2 n2 c2, .int .u32 (lock : Int)] : List Value).toArray] (by go_simp) ((HO.out w (rI10.below hw.drew) (rO10.below hw.drew)).mono ?_)))) ?_
 ·rintro e w' ⟨B1, B2, d1, d2, rfl, _, _, r1, r2, b'⟩
  exact ⟨_, rfl, b', B1, B2, d1, d2, rfl, r1, r2⟩
 refine relWord _ rfl (fun w hw => fill_take rfl rfl fun v hv => fill_none rfl (relOp_yes rfl ?_)) ?_
 ·obtain ⟨B1, B2, d1, d2, rfl, r1, r2⟩ := hv
  refine relRes_enterW 20 #[.agg (wtc A5 A8 A3 n5 c5 n8 c8 nn c3).toArray, .agg #[.int .u32 (ver : Int), .slice B1 n1 d1, .slice B2 n2 d2, .int .u32 (lock : Int)]] (by go_simp) ((HN2.out B1 B2 d1 d2 w (t10.below hw.drew) r1 r2 (S10.below hw.drew) (T10.below hw.drew)).mono ?_)
  rintro e w' ⟨A', n', c', rfl, hl2, r3, b3⟩
  exact ⟨_, rfl, b3, A', n', c', rfl, hl2, r3⟩
 refine relWord _ rfl (fun w hw => fill_skip rfl (fill_take rfl rfl fun v hv => fill_none rfl (relOp_yes rfl ?_))) ?_
 ·exact ⟨Ext.refl _, hv⟩
 refine relWord _ rfl (fun w hw => fill_skip rfl (fill_skip rfl (fill_take rfl rfl fun v hv => fill_none rfl (relOp_yes rfl ?_)))) ?_
 ·obtain ⟨A', n', c', rfl, hl2, r2⟩ := hv
  exact ⟨Ext.refl _, A', n', c', rfl, hl2, r2⟩
 refine relOn rfl rfl (c := .bool false) (fun w hw => fill_skip rfl (fill_skip rfl (fill_take rfl rfl fun v hv => fill_none rfl (relOp_yes rfl ?_)))) (by simp only [Zs]; rfl) ?_
 ·obtain ⟨A', n', c', rfl, hl2, r2⟩ := hv
  exact ⟨Ext.refl _, rfl⟩
 refine relWord _ rfl (fun w hw => fill_none rfl (relOp_yes rfl ?_)) ?_
 ·exact ⟨(Below.refl _ _).alloc (Nat.le_refl _) _, w.heap.size, rfl, hw.drew.size, heap_alloc_new _ _⟩
 refine relEnd fun w11 hw11 => fill_take rfl rfl fun v1 hv1 => fill_take rfl rfl fun v2 hv2 => fill_take rfl rfl fun v3 hv3 => fill_take rfl rfl fun v4 hv4 => fill_take rfl rfl fun v5 hv5 => fill_end ?_
 obtain ⟨A9, n9, c9, rfl, hl11, r11⟩ := hv4
 obtain ⟨G13, rfl, hG11, z11⟩ := hv5
 clear hv1 hv2 hv3
 simp only [List.set_cons_succ, List.set_cons_zero, List.drop_succ_cons, List.drop_zero]
 have b11 : Below w10.heap.size w10 w11 := hw11.drew
 have wone11 := wtc_one A5 A9 A3 n5 c5 n9 c9 nn c3
 have l11 : (wtc A5 A9 A3 n5 c5 n9 c9 nn c3).length = 3 := rfl
 go_upto_region 8 with ((with_reducible refine wpList_storeFA 42 b11 z11 hG11 (wtc A5 A9 A3 n5 c5 n9 c9 nn c3) ?_ ?_ 3 l11 ?_ ?_ ?_ ?_); rfl; rfl; kernel_rfl; rfl; exact wone11; intro w12 u12 bw12 kw12 zw12)
 have fw12 : Fr (fun k => k = G13) w11 w12 := ⟨bw12.os.trans b11.os.symm, bw12.tape.trans b11.tape.symm, bw12.output.trans b11.output.symm, by rw [zw12]; exact Nat.le_refl _, fun k _ hk => kw12 k hk⟩
 have R11 := r11.off z11 fw12
 clear b11 fw12 kw12 zw12 r11 z11
 have B12 := B10.trans (bw12.mono B10.size)
 have a12 := a10.below bw12
 have h12 := h10.below bw12
 have x12 := x10.below bw12
 have q12 := u10.below bw12
 have S12 := S10.below bw12
 have V12 := R9.below bw12
 have t12 := t10.below bw12
 have rI12 := rI10.below bw12
 have rO12 := rO10.below bw12
 clear a10 h10 x10 u10 S10 T10 t10 rI10 rO10 HN2 u12 bw12 R9 R11 hl11
 have HId := fun B1 B2 d1 d2 w' r1 r2 t => TIdU ver lock hv hlk l m B1 B2 n1 n2 d1 d2 hn1.out hn2.out w' r1 r2 t
 obtain ⟨I, g, hig⟩ : ∃ I g, idOf tx = (I, g) := ⟨_, _, rfl⟩
 have I32 : I.length = 32 := by have := idOf_len tx; rw [hig] at this; exact this
 rw [← htx.out, hig] at HId
 have hok := hok.out
 have hT1 := hT1.out
 rw [hig] at hok hT1
 dsimp only at hok hT1 HId
 have I32v := Lib.hid (show (I.map bv).length = 32 by rw [List.length_map, I32])
 have Ione := Lib.hid (show (I.map bv).all (·.oneCell') = true by rw [List.all_eq_true]; exact bv_one I)
 replace HId := Lib.hid HId
 replace hok := Lib.hid hok
 replace hT1 := Lib.hid hT1
 replace hig := Lib.hid hig
 replace I32 := Lib.hid I32
 have ltx : (([.int .u32 (ver : Int), .slice A1 n1 c1, .slice A2 n2 c2, .int .u32 (lock : Int)] : List Value)).length = 4 := rfl
 go_upto_region 9 with (first
  | ((with_reducible refine wpList_loadF 66 x12 ?_ _ 4 ltx Tryd.underlying66 ?_ ?_ ?_); rfl; rfl; kernel_rfl)
  | (go_at_call 21; refine (HO.out w12 rI12 rO12).mono ?_; rintro e13 w13 ⟨B1, B2, d1, d2, rfl, _, _, r13, o13, b13⟩; have t13 := t12.below b13)
  | (go_at_call 22; refine (HId.out B1 B2 d1 d2 w13 r13 o13 t13).mono ?_; rintro e14 w14 ⟨rfl, b14⟩)
  | ((with_reducible refine wpList_storeF 30 ((Below.refl w14.heap.size w14).alloc (Nat.le_refl _) _) (heap_alloc_new _ _) (Nat.le_refl _) (I.map bv) ?_ ?_ 32 I32v.out ?_ ?_ ?_ ?_); rfl; rfl; kernel_rfl; (first | rfl | simp); exact Ione.out; intro w15 i15 b15 k15 z15; clear k15; replace z15 := Lib.hid z15))
 obtain ⟨GI, hGI⟩ : ∃ G, G = w14.heap.size := ⟨_, rfl⟩
 rw [← hGI] at i15 ⊢
 replace hGI := Lib.hid hGI
 have b1215 := b13.trans ((b14.trans (b15.mono b14.size)).mono b13.size)
 have B14 := B12.trans (b1215.mono B12.size)
 have a14 := a12.below b1215
 have h14 := h12.below b1215
 have x14 := x12.below b1215
 have q14 := q12.below b1215
 have S14 := S12.below b1215
 have V14 := V12.below b1215
 have T14 := rT.below B14
 have rI14 := rI12.below b1215
 have rO14 := rO12.below b1215
 clear a12 h12 x12 q12 S12 V12 t12 rI12 rO12 b13 b14 b15 r13 o13 t13 b1215 HId
 obtain ⟨tt, htt⟩ : ∃ tt, txT tx S1 T = tt := ⟨_, rfl⟩
 have HTo := fun B1 B2 d1 d2 w' r1 r2 rs rh => TTouch ver lock l m B1 B2 n1 n2 d1 d2 hn1.out hn2.out (by omega) (by omega) S5 A5 n5 c5 hS5.out (by omega) T At nt ct hT.out (by omega) w' r1 r2 rs rh tt (by rw [hm5.out, ← htx.out]; exact htt)
 have K0 : ∀ w', Below w15.heap.size w15 w' → w'.cell? ⟨GA, 0, none⟩ = some (.slice A5 n5 c5) := fun w' b => (a14.below b).cell 0 _ rfl
 have K1 : ∀ w', Below w15.heap.size w15 w' → w'.cell? ⟨GA, 1, none⟩ = some (.slice At nt ct) := fun w' b => (a14.below b).cell 1 _ rfl
 have hok := hok.out
 rw [htt] at hok
 replace hok := Lib.hid hok
 replace HTo := Lib.hid HTo
 replace htt := Lib.hid htt
 replace K0 := Lib.hid K0
 replace K1 := Lib.hid K1
 refine wp_region_rel [(1, OurW ver lock n1 n2 l m)] Ext (by kernel_rfl) (by kernel_rfl) (by kernel_rfl) Ext.refl Ext.trans (by intro p hp v w w' hR; simp only [List.mem_cons, List.not_mem_nil, or_false] at hp; rcases hp with rfl; exact OurW.mono hR) ?_
 refine ZP (c := .agg ([.int .u32 (ver : Int), .slice A1 n1 c1, .slice A2 n2 c2, .int .u32 (lock : Int)] : List Value).toArray) (fun w hw => exec_loadAv (x14.below hw.drew) _ _ rfl rfl _ 4 rfl Tryd.underlying66 rfl (by kernel_rfl)) ?_
 refine relWord _ rfl (fun w hw => fill_none rfl (relOp_yes rfl (relRes_enterW 21 #[.agg ([.int .u32 (ver : Int), .slice A1 n1 c1, .slice A2 n2 c2, .int .u32 (lock : Int)] : List Value).toArray] (by go_simp) ((HO.out w (rI14.below hw.drew) (rO14.below hw.drew)).mono ?_)))) ?_
 ·rintro e w' ⟨B1, B2, d1, d2, rfl, _, _, r1, r2, b'⟩
  exact ⟨_, rfl, b', B1, B2, d1, d2, rfl, r1, r2⟩
 refine ZP (c := .pointer (some ⟨GA, 0, none⟩)) (fun w _ => by go_simp; first | done | rfl) ?_
 refine ZP (c := .slice A5 n5 c5) (fun w hw => by have := K0.out _ hw.drew; go_simp; first | done | rfl) ?_
 refine ZP (c := .pointer (some ⟨GA, 1, none⟩)) (fun w _ => by go_simp; first | done | rfl) ?_
 refine ZP (c := .slice At nt ct) (fun w hw => by have := K1.out _ hw.drew; go_simp; first | done | rfl) ?_
 refine relOn rfl rfl (c := .bool tt) (fun w hw => fill_take rfl rfl fun v hv => fill_end ?_) (by simp only [Zs]; rfl) ?_
 ·obtain ⟨B1, B2, d1, d2, rfl, r1, r2⟩ := hv
  simp only [List.set_cons_succ, List.set_cons_zero]
  refine relOp_yes rfl (relRes_enterW 23 #[.agg #[.int .u32 (ver : Int), .slice B1 n1 d1, .slice B2 n2 d2, .int .u32 (lock : Int)], .slice A5 n5 c5, .slice At nt ct] (by go_simp) ?_)
  exact (HTo.out B1 B2 d1 d2 w r1 r2 (S14.below hw.drew) (T14.below hw.drew)).mono fun _ _ h => ⟨_, h.1, h.2, rfl⟩
 refine ZM ?_
 refine relEnd fun w16 hw16 => fill_take rfl rfl fun v1 hv1 => fill_end ?_
 clear hv1
 simp only [List.set_cons_succ, List.set_cons_zero]
 have b16 := hw16.drew
 have b156 := b16
 have B15 := B14.trans (b16.mono B14.size)
 replace a14 := a14.below b16
 replace h14 := h14.below b16
 replace q14 := q14.below b16
 replace V14 := V14.below b16
 replace i15 := i15.below b16
 have T15 := rT.below B15
 clear b16 b156 hw16 x14 S14 T14 rI14 rO14 HTo K0 K1 HO B14
 go_wp2
 have ct16 := h14.cell 1 (.slice At nt ct) rfl
 go_loopw [19, 20] (fun fv kv wr => ∃ (j : Nat) (Fv : Bool), j ≤ nt ∧ fv = .bool Fv ∧ kv = .int .i64 (j : Int) ∧ Hid (Fv = mWat T I j) ∧ Below w16.heap.size w16 wr) (fun _ kv _ => nt - (intOf kv).toNat)
 case atStart => exact ⟨0, false, by omega, rfl, rfl, Lib.hid rfl, Below.refl _ _⟩
 case round =>
  clear ct16
  obtain ⟨j, Fv, hj, rfl, rfl, hF, br⟩ := hrel
  have CT : ∀ w', Below w16.heap.size w16 w' → w'.cell? ⟨H, 1, none⟩ = some (.slice At nt ct) := fun w' b => (h14.below b).cell 1 _ rfl
  have ctr := CT _ br
  by_cases hlt3 : j < nt
  ·have u4 : decide ((j : Int) < (nt : Int)) = true := by simp; omega
   have n0 : 0 ≤ (j : Int) := by omega
   have n1' : (j : Int) < (nt : Int) := by omega
   obtain ⟨z, hp⟩ : ∃ z, T[j]? = some z := ⟨_, List.getElem?_eq_getElem (by rw [hT.out]; exact hlt3)⟩
   obtain ⟨bT, oT, rfl⟩ := T15.adr (by rw [hT.out]; omega)
   have z32' : z.length = 32 := T15.2 z (List.mem_of_getElem? hp)
   have z32 := Lib.hid (show (z.map bv).length = 32 by rw [List.length_map, z32'])
   have C2 : ∀ w', Below w16.heap.size w16 w' → w'.rangeAt bT (oT + j * 32) (z.map bv) := fun w' b => (T15.below b).nth j z hp
   have CI : ∀ w', Below w16.heap.size w16 w' → w'.rangeAt GI 0 (I.map bv) := fun w' b => (i15.below b).range0
   have hF1 := mWat_step (x := I) hp
   rw [← hF.out] at hF1
   have ED := fun p q w => eqlHg z I z32' I32.out p q w
   obtain ⟨D2, hD2⟩ : ∃ D2, D2 = (z == I) := ⟨_, rfl⟩
   rw [← hD2] at ED hF1
   clear hp
   replace C2 := Lib.hid C2
   replace CT := Lib.hid CT
   replace CI := Lib.hid CI
   replace ED := Lib.hid ED
   replace hF1 := Lib.hid hF1
   replace hD2 := Lib.hid hD2
   cases Fv
   ·go_upto_region 14 with fail
    refine wp_region_rel [] Ext (by kernel_rfl) (by kernel_rfl) (by kernel_rfl) Ext.refl Ext.trans (by intro p hp; cases hp) ?_
    refine ZM ?_
    refine ZM ?_
    refine ZP (c := .pointer (some ⟨H, 1, none⟩)) (fun w _ => by go_simp; first | done | rfl) ?_
    refine ZP (c := .slice (some ⟨bT, oT, none⟩) nt ct) (fun w hw => by have := CT.out _ (br.trans (hw.drew.mono br.size)); go_simp; first | done | rfl) ?_
    refine ZM ?_
    refine ZP (c := .pointer (some ⟨bT, oT + j * 32, none⟩)) (fun w _ => by have := n0; have := n1'; go_simp; first | done | rfl) ?_
    refine ZP (c := .agg (z.map bv).toArray) (fun w hw => exec_load_mid _ _ rfl bT (oT + j * 32) rfl (z.map bv) _ (C2.out _ (br.trans (hw.drew.mono br.size))) Tryd.underlying30 rfl (by rw [z32.out]; kernel_rfl)) ?_
    refine ZP (c := .agg (I.map bv).toArray) (fun w hw => exec_load_mid _ _ rfl GI (0) rfl (I.map bv) _ (CI.out _ (br.trans (hw.drew.mono br.size))) Tryd.underlying30 rfl (by rw [I32v.out]; kernel_rfl)) ?_
    refine relBin Ext.refl rfl rfl rfl rfl _ _ _ _ _ rfl (by conv => lhs; whnf) (by conv => lhs; whnf) (c := .bool D2) (fun w => ED.out _ _ w) (by simp only [Zs]; rfl) ?_
    refine ZK ?_
    refine ZM ?_
    refine relEnd fun w17 hw17 => fill_end ?_
    have bw17 := br.trans (hw17.drew.mono br.size)
    go_wp2
    refine ⟨⟨j + 1, D2, by omega, rfl, by go_num, Lib.hid (by rw [hF1.out]; simp), bw17⟩, ?_⟩
    simp only [intOf]
    omega
   ·go_upto_region 14 with fail
    refine wp_region_rel [] Ext (by kernel_rfl) (by kernel_rfl) (by kernel_rfl) Ext.refl Ext.trans (by intro p hp; cases hp) ?_
    refine ZM ?_
    refine ZM ?_
    refine ZS ?_
    refine ZS ?_
    refine ZS ?_
    refine ZS ?_
    refine ZS ?_
    refine ZS ?_
    refine ZS ?_
    refine ZK ?_
    refine ZM ?_
    refine relEnd fun w17 hw17 => fill_end ?_
    have bw17 := br.trans (hw17.drew.mono br.size)
    go_wp2
    refine ⟨⟨j + 1, true, by omega, rfl, by go_num, Lib.hid (by rw [hF1.out]; simp), bw17⟩, ?_⟩
    simp only [intOf]
    omega
  ·obtain rfl : j = nt := by omega
   have u4 : decide ((j : Int) < (j : Int)) = false := by simp
   obtain ⟨w17, hw17⟩ : ∃ w17 : World, w17 = wr := ⟨_, rfl⟩
   subst hw17
   obtain rfl : Fv = T.contains I := by rw [hF.out, ← hT.out]; exact mWat_end
   obtain ⟨kn, hkn⟩ : ∃ kn, kn = T.contains I := ⟨_, rfl⟩
   have hok := hok.out
   rw [← hkn] at hok ⊢
   have B15 := B15.trans (br.mono B15.size)
   have a17 := a14.below br
   have h17 := h14.below br
   have q17 := q14.below br
   have V17 := V14.below br
   have i17 := i15.below br
   clear hF ctr CT a14 h14 q14 V14 i15 br T15
   have s0 := q17.cell 0 (.slice A5 n5 c5) rfl
   have s1 := a17.cell 0 (.slice A5 n5 c5) rfl
   replace hok := Lib.hid hok
   replace hkn := Lib.hid hkn
   have ct17 := h17.cell 1 (.slice At j ct) rfl
   go_upto_region 15 with fail
   clear ct17
   go_cut [123] from 93 to 123 (fun c wx => c = .bool false ∧ wx = w17)
   case first =>
    obtain ⟨gb, hgb⟩ : ∃ gb, gb = ((g : Int) == 0) := ⟨_, rfl⟩
    have hok := hok.out
    rw [show decide (g = 0) = ((g : Int) == 0) by rw [Bool.eq_iff_iff]; simp, ← hgb] at hok
    obtain ⟨eb, heb⟩ : ∃ eb, eb = ((e : Int) == 0) := ⟨_, rfl⟩
    have hf10 : eb = true → ((f : Int) != 10) = false := fun h => by
     rw [h] at heb
     have : e = 0 := by have := heb.symm; simp at this; omega
     have := htwice.out this
     rw [this]; rfl
    cases gb <;> cases tt <;> cases kn <;> (simp only [Bool.and_true, Bool.and_false, Bool.not_true, Bool.not_false] at hok; subst hok) <;> cases eb
    all_goals (have g1 := hgb.symm; have e1 := heb.symm; clear hgb heb; first | (have f1 := hf10 rfl; clear hf10; go_wp2_with fail; go_meet; exact ⟨rfl, rfl⟩) | (clear hf10; go_wp2_with fail; go_meet; exact ⟨rfl, rfl⟩))
   case rest =>
    obtain ⟨rfl, hc2⟩ := hcut
    obtain rfl : w17 = _ := hc2.symm
    clear s0 s1
    have he := hcode.out
    clear hcode
    have V2 : ∀ w', Below w17.heap.size w17 w' → w'.cell? ⟨H, 1, none⟩ = some (.slice At j ct) := fun w' b => (h17.below b).cell 1 _ rfl
    have V5 : ∀ w', Below w17.heap.size w17 w' → w'.cell? ⟨H, 0, none⟩ = some (.slice As ns cs) := fun w' b => (h17.below b).cell 0 _ rfl
    replace V2 := Lib.hid V2
    replace V5 := Lib.hid V5
    cases ok
    ·clear hok htw htwice hnt1 hT1
     go_upto_region 17 with fail
     rcases he with rfl | rfl | ⟨rfl, h256⟩
     ·clear hes
      refine wp_region_rel [] Ext (by kernel_rfl) (by kernel_rfl) (by kernel_rfl) Ext.refl Ext.trans (by intro p hp; cases hp) ?_
      refine ZM ?_
      refine ZM ?_
      refine ZM ?_
      refine ZP (c := .bool true) (fun w _ => by go_simp; first | done | rfl) ?_
      refine ZM ?_
      refine ZS ?_
      refine ZS ?_
      refine ZS ?_
      refine ZS ?_
      refine ZS ?_
      refine ZS ?_
      refine ZS ?_
      refine ZS ?_
      refine ZS ?_
      refine relSkipU rfl rfl (by kernel_rfl) rfl (by simp only [Zs]; rfl) ?_
      refine relSkipU rfl rfl (by kernel_rfl) rfl (by simp only [Zs]; rfl) ?_
      refine relSkipU rfl rfl (by kernel_rfl) rfl (by simp only [Zs]; rfl) ?_
      refine relSkipU rfl rfl (by kernel_rfl) rfl (by simp only [Zs]; rfl) ?_
      refine relSkipU rfl rfl (by kernel_rfl) rfl (by simp only [Zs]; rfl) ?_
      refine relSkipU rfl rfl (by kernel_rfl) rfl (by simp only [Zs]; rfl) ?_
      refine relSkipU rfl rfl (by kernel_rfl) rfl (by simp only [Zs]; rfl) ?_
      refine relSkipU rfl rfl (by kernel_rfl) rfl (by simp only [Zs]; rfl) ?_
      refine relSkipU rfl rfl (by kernel_rfl) rfl (by simp only [Zs]; rfl) ?_
      refine ZS ?_
      refine ZK ?_
      refine ZK ?_
      refine ZM ?_
      refine ZM ?_
      refine ZP (c := .bool true) (fun w _ => by go_simp; first | done | rfl) ?_
      refine ZM ?_
      refine ZS ?_
      refine ZS ?_
      refine ZK ?_
      refine ZM ?_
      refine ZS ?_
      refine ZS ?_
      refine ZS ?_
      refine relSkipU rfl rfl (by kernel_rfl) rfl (by simp only [Zs]; rfl) ?_
      refine relSkipU rfl rfl (by kernel_rfl) rfl (by simp only [Zs]; rfl) ?_
      refine relSkipU rfl rfl (by kernel_rfl) rfl (by simp only [Zs]; rfl) ?_
      refine relSkipU rfl rfl (by kernel_rfl) rfl (by simp only [Zs]; rfl) ?_
      refine ZS ?_
      refine ZK ?_
      refine ZK ?_
      refine ZM ?_
      refine relEnd fun w18 hw18 => fill_end ?_
      go_wp2
      go_ret
      exact ⟨rfl, B15.trans (hw18.drew.mono B15.size)⟩
     ·clear hes
      refine wp_region_rel [] Ext (by kernel_rfl) (by kernel_rfl) (by kernel_rfl) Ext.refl Ext.trans (by intro p hp; cases hp) ?_
      refine ZM ?_
      refine ZM ?_
      refine ZM ?_
      refine ZP (c := .bool true) (fun w _ => by go_simp; first | done | rfl) ?_
      refine ZM ?_
      refine ZS ?_
      refine ZS ?_
      refine ZS ?_
      refine ZS ?_
      refine ZS ?_
      refine ZS ?_
      refine ZS ?_
      refine ZS ?_
      refine ZS ?_
      refine relSkipU rfl rfl (by kernel_rfl) rfl (by simp only [Zs]; rfl) ?_
      refine relSkipU rfl rfl (by kernel_rfl) rfl (by simp only [Zs]; rfl) ?_
      refine relSkipU rfl rfl (by kernel_rfl) rfl (by simp only [Zs]; rfl) ?_
      refine relSkipU rfl rfl (by kernel_rfl) rfl (by simp only [Zs]; rfl) ?_
      refine relSkipU rfl rfl (by kernel_rfl) rfl (by simp only [Zs]; rfl) ?_
      refine relSkipU rfl rfl (by kernel_rfl) rfl (by simp only [Zs]; rfl) ?_
      refine relSkipU rfl rfl (by kernel_rfl) rfl (by simp only [Zs]; rfl) ?_
      refine relSkipU rfl rfl (by kernel_rfl) rfl (by simp only [Zs]; rfl) ?_
      refine relSkipU rfl rfl (by kernel_rfl) rfl (by simp only [Zs]; rfl) ?_
      refine ZS ?_
      refine ZK ?_
      refine ZK ?_
      refine ZM ?_
      refine ZM ?_
      refine ZP (c := .bool false) (fun w _ => by go_simp; first | done | rfl) ?_
      refine ZM ?_
      refine ZM ?_
      refine ZP (c := .bool true) (fun w _ => by go_simp; first | done | rfl) ?_
      refine ZK ?_
      refine ZM ?_
      refine ZS ?_
      refine ZS ?_
      refine ZS ?_
      refine relSkipU rfl rfl (by kernel_rfl) rfl (by simp only [Zs]; rfl) ?_
      refine relSkipU rfl rfl (by kernel_rfl) rfl (by simp only [Zs]; rfl) ?_
      refine relSkipU rfl rfl (by kernel_rfl) rfl (by simp only [Zs]; rfl) ?_
      refine relSkipU rfl rfl (by kernel_rfl) rfl (by simp only [Zs]; rfl) ?_
      refine ZS ?_
      refine ZK ?_
      refine ZK ?_
      refine ZM ?_
      refine relEnd fun w18 hw18 => fill_end ?_
      go_wp2
      go_ret
      exact ⟨rfl, B15.trans (hw18.drew.mono B15.size)⟩
     ·have e9 : decide ((256 : Int) ≤ (ns : Int)) = true := by simp; omega
      have e10 : decide (256 ≤ ns) = true := by simp; omega
      clear hes
      refine wp_region_rel [] Ext (by kernel_rfl) (by kernel_rfl) (by kernel_rfl) Ext.refl Ext.trans (by intro p hp; cases hp) ?_
      refine ZM ?_
      refine ZM ?_
      refine ZM ?_
      refine ZP (c := .bool true) (fun w _ => by go_simp; first | done | rfl) ?_
      refine ZM ?_
      refine ZS ?_
      refine ZS ?_
      refine ZS ?_
      refine ZS ?_
      refine ZS ?_
      refine ZS ?_
      refine ZS ?_
      refine ZS ?_
      refine ZS ?_
      refine relSkipU rfl rfl (by kernel_rfl) rfl (by simp only [Zs]; rfl) ?_
      refine relSkipU rfl rfl (by kernel_rfl) rfl (by simp only [Zs]; rfl) ?_
      refine relSkipU rfl rfl (by kernel_rfl) rfl (by simp only [Zs]; rfl) ?_
      refine relSkipU rfl rfl (by kernel_rfl) rfl (by simp only [Zs]; rfl) ?_
      refine relSkipU rfl rfl (by kernel_rfl) rfl (by simp only [Zs]; rfl) ?_
      refine relSkipU rfl rfl (by kernel_rfl) rfl (by simp only [Zs]; rfl) ?_
      refine relSkipU rfl rfl (by kernel_rfl) rfl (by simp only [Zs]; rfl) ?_
      refine relSkipU rfl rfl (by kernel_rfl) rfl (by simp only [Zs]; rfl) ?_
      refine relSkipU rfl rfl (by kernel_rfl) rfl (by simp only [Zs]; rfl) ?_
      refine ZS ?_
      refine ZK ?_
      refine ZK ?_
      refine ZM ?_
      refine ZM ?_
      refine ZP (c := .bool false) (fun w _ => by go_simp; first | done | rfl) ?_
      refine ZM ?_
      refine ZM ?_
      refine ZP (c := .bool false) (fun w _ => by go_simp; first | done | rfl) ?_
      refine ZK ?_
      refine ZM ?_
      refine ZM ?_
      refine ZP (c := .bool true) (fun w _ => by go_simp; first | done | rfl) ?_
      refine ZM ?_
      refine ZP (c := .pointer (some ⟨H, 0, none⟩)) (fun w _ => by go_simp; first | done | rfl) ?_
      refine ZP (c := .slice As ns cs) (fun w hw => by have := V5.out _ hw.drew; go_simp; first | done | rfl) ?_
      refine ZP (c := .int .i64 (ns : Int)) (fun w _ => by go_simp; first | done | rfl) ?_
      refine ZP (c := .bool true) (fun w _ => by have := e9; have := e10; go_simp; first | done | rfl) ?_
      refine ZK ?_
      refine ZK ?_
      refine ZK ?_
      refine ZM ?_
      refine relEnd fun w18 hw18 => fill_end ?_
      go_wp2
      go_ret
      exact ⟨rfl, B15.trans (hw18.drew.mono B15.size)⟩
    ·have hT1' : T1 = T ++ [I] := by have := hT1.out; rw [if_pos rfl] at this; exact this
     have hn8' : n8 = j + 1 := by rw [← hl9.out, hT1', List.length_append, hT.out]; rfl
     have hTI : T1[j]? = some I := by rw [hT1', List.getElem?_append_right (by rw [hT.out]; exact Nat.le_refl _), hT.out]; simp
     obtain ⟨bV, oV, rfl⟩ := V17.adr (by rw [hl9.out]; omega)
     have V1 : ∀ w', Below w17.heap.size w17 w' → w'.cell? ⟨G12, 1, none⟩ = some (.slice (some ⟨bV, oV, none⟩) n8 c8) := fun w' b => (q17.below b).cell 1 _ rfl
     have V3 : ∀ w', Below w17.heap.size w17 w' → w'.rangeAt bV (oV + j * 32) (I.map bv) := fun w' b => (V17.below b).nth j I hTI
     have V4 : ∀ w', Below w17.heap.size w17 w' → w'.rangeAt GI 0 (I.map bv) := fun w' b => (i17.below b).range0
     have p0 : 0 ≤ (j : Int) := by omega
     have p1 : (j : Int) < (n8 : Int) := by omega
     have e7 : IntKind.i64.wrap ((j : Int) + 1) = (j : Int) + 1 := IntWalk.i64_in _ (by omega)
     have e8 : ((n8 : Int) == (j : Int) + 1) = true := by rw [hn8']; simp
     have EI := fun p q w => eqlHg I I I32.out I32.out p q w
     simp only [beq_self_eq_true] at EI
     replace V1 := Lib.hid V1
     replace V3 := Lib.hid V3
     replace V4 := Lib.hid V4
     replace EI := Lib.hid EI
     replace hn8' := Lib.hid hn8'
     clear hok htw htwice hnt1 hT1 hT1' hTI
     go_upto_region 17 with fail
     rcases he with rfl | rfl | ⟨rfl, h256⟩
     ·clear hes
      refine wp_region_rel [] Ext (by kernel_rfl) (by kernel_rfl) (by kernel_rfl) Ext.refl Ext.trans (by intro p hp; cases hp) ?_
      refine ZM ?_
      refine ZM ?_
      refine ZM ?_
      refine ZP (c := .bool false) (fun w _ => by go_simp; first | done | rfl) ?_
      refine ZM ?_
      refine ZP (c := .pointer (some ⟨G12, 1, none⟩)) (fun w _ => by go_simp; first | done | rfl) ?_
      refine ZP (c := .slice (some ⟨bV, oV, none⟩) n8 c8) (fun w hw => by have := V1.out _ hw.drew; go_simp; first | done | rfl) ?_
      refine ZP (c := .int .i64 (n8 : Int)) (fun w _ => by go_simp; first | done | rfl) ?_
      refine ZP (c := .pointer (some ⟨H, 1, none⟩)) (fun w _ => by go_simp; first | done | rfl) ?_
      refine ZP (c := .slice At j ct) (fun w hw => by have := V2.out _ hw.drew; go_simp; first | done | rfl) ?_
      refine ZP (c := .int .i64 (j : Int)) (fun w _ => by go_simp; first | done | rfl) ?_
      refine ZP (c := .int .i64 ((j : Int) + 1)) (fun w _ => by have := e7; go_simp; first | done | rfl) ?_
      refine ZP (c := .bool true) (fun w _ => by have := e8; go_simp; first | done | rfl) ?_
      refine ZM ?_
      refine ZP (c := .pointer (some ⟨G12, 1, none⟩)) (fun w _ => by go_simp; first | done | rfl) ?_
      refine ZP (c := .slice (some ⟨bV, oV, none⟩) n8 c8) (fun w hw => by have := V1.out _ hw.drew; go_simp; first | done | rfl) ?_
      refine ZP (c := .pointer (some ⟨H, 1, none⟩)) (fun w _ => by go_simp; first | done | rfl) ?_
      refine ZP (c := .slice At j ct) (fun w hw => by have := V2.out _ hw.drew; go_simp; first | done | rfl) ?_
      refine ZP (c := .int .i64 (j : Int)) (fun w _ => by go_simp; first | done | rfl) ?_
      refine ZP (c := .pointer (some ⟨bV, oV + j * 32, none⟩)) (fun w _ => by have := p0; have := p1; go_simp; first | done | rfl) ?_
      refine ZP (c := .agg (I.map bv).toArray) (fun w hw => exec_load_mid _ _ rfl bV (oV + j * 32) rfl (I.map bv) _ (V3.out _ hw.drew) Tryd.underlying30 rfl (by rw [I32v.out]; kernel_rfl)) ?_
      refine ZP (c := .agg (I.map bv).toArray) (fun w hw => exec_load_mid _ _ rfl GI (0) rfl (I.map bv) _ (V4.out _ hw.drew) Tryd.underlying30 rfl (by rw [I32v.out]; kernel_rfl)) ?_
      refine relBin Ext.refl rfl rfl rfl rfl _ _ _ _ _ rfl (by conv => lhs; whnf) (by conv => lhs; whnf) (c := .bool true) (fun w => EI.out _ _ w) (by simp only [Zs]; rfl) ?_
      refine ZK ?_
      refine ZK ?_
      refine ZK ?_
      refine ZM ?_
      refine ZM ?_
      refine ZP (c := .bool true) (fun w _ => by go_simp; first | done | rfl) ?_
      refine ZM ?_
      refine ZS ?_
      refine ZS ?_
      refine ZK ?_
      refine ZM ?_
      refine ZS ?_
      refine ZS ?_
      refine ZS ?_
      refine relSkipU rfl rfl (by kernel_rfl) rfl (by simp only [Zs]; rfl) ?_
      refine relSkipU rfl rfl (by kernel_rfl) rfl (by simp only [Zs]; rfl) ?_
      refine relSkipU rfl rfl (by kernel_rfl) rfl (by simp only [Zs]; rfl) ?_
      refine relSkipU rfl rfl (by kernel_rfl) rfl (by simp only [Zs]; rfl) ?_
      refine ZS ?_
      refine ZK ?_
      refine ZK ?_
      refine ZM ?_
      refine relEnd fun w18 hw18 => fill_end ?_
      go_wp2
      go_ret
      exact ⟨rfl, B15.trans (hw18.drew.mono B15.size)⟩
     ·clear hes
      refine wp_region_rel [] Ext (by kernel_rfl) (by kernel_rfl) (by kernel_rfl) Ext.refl Ext.trans (by intro p hp; cases hp) ?_
      refine ZM ?_
      refine ZM ?_
      refine ZM ?_
      refine ZP (c := .bool false) (fun w _ => by go_simp; first | done | rfl) ?_
      refine ZM ?_
      refine ZP (c := .pointer (some ⟨G12, 1, none⟩)) (fun w _ => by go_simp; first | done | rfl) ?_
      refine ZP (c := .slice (some ⟨bV, oV, none⟩) n8 c8) (fun w hw => by have := V1.out _ hw.drew; go_simp; first | done | rfl) ?_
      refine ZP (c := .int .i64 (n8 : Int)) (fun w _ => by go_simp; first | done | rfl) ?_
      refine ZP (c := .pointer (some ⟨H, 1, none⟩)) (fun w _ => by go_simp; first | done | rfl) ?_
      refine ZP (c := .slice At j ct) (fun w hw => by have := V2.out _ hw.drew; go_simp; first | done | rfl) ?_
      refine ZP (c := .int .i64 (j : Int)) (fun w _ => by go_simp; first | done | rfl) ?_
      refine ZP (c := .int .i64 ((j : Int) + 1)) (fun w _ => by have := e7; go_simp; first | done | rfl) ?_
      refine ZP (c := .bool true) (fun w _ => by have := e8; go_simp; first | done | rfl) ?_
      refine ZM ?_
      refine ZP (c := .pointer (some ⟨G12, 1, none⟩)) (fun w _ => by go_simp; first | done | rfl) ?_
      refine ZP (c := .slice (some ⟨bV, oV, none⟩) n8 c8) (fun w hw => by have := V1.out _ hw.drew; go_simp; first | done | rfl) ?_
      refine ZP (c := .pointer (some ⟨H, 1, none⟩)) (fun w _ => by go_simp; first | done | rfl) ?_
      refine ZP (c := .slice At j ct) (fun w hw => by have := V2.out _ hw.drew; go_simp; first | done | rfl) ?_
      refine ZP (c := .int .i64 (j : Int)) (fun w _ => by go_simp; first | done | rfl) ?_
      refine ZP (c := .pointer (some ⟨bV, oV + j * 32, none⟩)) (fun w _ => by have := p0; have := p1; go_simp; first | done | rfl) ?_
      refine ZP (c := .agg (I.map bv).toArray) (fun w hw => exec_load_mid _ _ rfl bV (oV + j * 32) rfl (I.map bv) _ (V3.out _ hw.drew) Tryd.underlying30 rfl (by rw [I32v.out]; kernel_rfl)) ?_
      refine ZP (c := .agg (I.map bv).toArray) (fun w hw => exec_load_mid _ _ rfl GI (0) rfl (I.map bv) _ (V4.out _ hw.drew) Tryd.underlying30 rfl (by rw [I32v.out]; kernel_rfl)) ?_
      refine relBin Ext.refl rfl rfl rfl rfl _ _ _ _ _ rfl (by conv => lhs; whnf) (by conv => lhs; whnf) (c := .bool true) (fun w => EI.out _ _ w) (by simp only [Zs]; rfl) ?_
      refine ZK ?_
      refine ZK ?_
      refine ZK ?_
      refine ZM ?_
      refine ZM ?_
      refine ZP (c := .bool false) (fun w _ => by go_simp; first | done | rfl) ?_
      refine ZM ?_
      refine ZM ?_
      refine ZP (c := .bool true) (fun w _ => by go_simp; first | done | rfl) ?_
      refine ZK ?_
      refine ZM ?_
      refine ZS ?_
      refine ZS ?_
      refine ZS ?_
      refine relSkipU rfl rfl (by kernel_rfl) rfl (by simp only [Zs]; rfl) ?_
      refine relSkipU rfl rfl (by kernel_rfl) rfl (by simp only [Zs]; rfl) ?_
      refine relSkipU rfl rfl (by kernel_rfl) rfl (by simp only [Zs]; rfl) ?_
      refine relSkipU rfl rfl (by kernel_rfl) rfl (by simp only [Zs]; rfl) ?_
      refine ZS ?_
      refine ZK ?_
      refine ZK ?_
      refine ZM ?_
      refine relEnd fun w18 hw18 => fill_end ?_
      go_wp2
      go_ret
      exact ⟨rfl, B15.trans (hw18.drew.mono B15.size)⟩
     ·have e9 : decide ((256 : Int) ≤ (ns : Int)) = true := by simp; omega
      have e10 : decide (256 ≤ ns) = true := by simp; omega
      clear hes
      refine wp_region_rel [] Ext (by kernel_rfl) (by kernel_rfl) (by kernel_rfl) Ext.refl Ext.trans (by intro p hp; cases hp) ?_
      refine ZM ?_
      refine ZM ?_
      refine ZM ?_
      refine ZP (c := .bool false) (fun w _ => by go_simp; first | done | rfl) ?_
      refine ZM ?_
      refine ZP (c := .pointer (some ⟨G12, 1, none⟩)) (fun w _ => by go_simp; first | done | rfl) ?_
      refine ZP (c := .slice (some ⟨bV, oV, none⟩) n8 c8) (fun w hw => by have := V1.out _ hw.drew; go_simp; first | done | rfl) ?_
      refine ZP (c := .int .i64 (n8 : Int)) (fun w _ => by go_simp; first | done | rfl) ?_
      refine ZP (c := .pointer (some ⟨H, 1, none⟩)) (fun w _ => by go_simp; first | done | rfl) ?_
      refine ZP (c := .slice At j ct) (fun w hw => by have := V2.out _ hw.drew; go_simp; first | done | rfl) ?_
      refine ZP (c := .int .i64 (j : Int)) (fun w _ => by go_simp; first | done | rfl) ?_
      refine ZP (c := .int .i64 ((j : Int) + 1)) (fun w _ => by have := e7; go_simp; first | done | rfl) ?_
      refine ZP (c := .bool true) (fun w _ => by have := e8; go_simp; first | done | rfl) ?_
      refine ZM ?_
      refine ZP (c := .pointer (some ⟨G12, 1, none⟩)) (fun w _ => by go_simp; first | done | rfl) ?_
      refine ZP (c := .slice (some ⟨bV, oV, none⟩) n8 c8) (fun w hw => by have := V1.out _ hw.drew; go_simp; first | done | rfl) ?_
      refine ZP (c := .pointer (some ⟨H, 1, none⟩)) (fun w _ => by go_simp; first | done | rfl) ?_
      refine ZP (c := .slice At j ct) (fun w hw => by have := V2.out _ hw.drew; go_simp; first | done | rfl) ?_
      refine ZP (c := .int .i64 (j : Int)) (fun w _ => by go_simp; first | done | rfl) ?_
      refine ZP (c := .pointer (some ⟨bV, oV + j * 32, none⟩)) (fun w _ => by have := p0; have := p1; go_simp; first | done | rfl) ?_
      refine ZP (c := .agg (I.map bv).toArray) (fun w hw => exec_load_mid _ _ rfl bV (oV + j * 32) rfl (I.map bv) _ (V3.out _ hw.drew) Tryd.underlying30 rfl (by rw [I32v.out]; kernel_rfl)) ?_
      refine ZP (c := .agg (I.map bv).toArray) (fun w hw => exec_load_mid _ _ rfl GI (0) rfl (I.map bv) _ (V4.out _ hw.drew) Tryd.underlying30 rfl (by rw [I32v.out]; kernel_rfl)) ?_
      refine relBin Ext.refl rfl rfl rfl rfl _ _ _ _ _ rfl (by conv => lhs; whnf) (by conv => lhs; whnf) (c := .bool true) (fun w => EI.out _ _ w) (by simp only [Zs]; rfl) ?_
      refine ZK ?_
      refine ZK ?_
      refine ZK ?_
      refine ZM ?_
      refine ZM ?_
      refine ZP (c := .bool false) (fun w _ => by go_simp; first | done | rfl) ?_
      refine ZM ?_
      refine ZM ?_
      refine ZP (c := .bool false) (fun w _ => by go_simp; first | done | rfl) ?_
      refine ZK ?_
      refine ZM ?_
      refine ZM ?_
      refine ZP (c := .bool true) (fun w _ => by go_simp; first | done | rfl) ?_
      refine ZM ?_
      refine ZP (c := .pointer (some ⟨H, 0, none⟩)) (fun w _ => by go_simp; first | done | rfl) ?_
      refine ZP (c := .slice As ns cs) (fun w hw => by have := V5.out _ hw.drew; go_simp; first | done | rfl) ?_
      refine ZP (c := .int .i64 (ns : Int)) (fun w _ => by go_simp; first | done | rfl) ?_
      refine ZP (c := .bool true) (fun w _ => by have := e9; have := e10; go_simp; first | done | rfl) ?_
      refine ZK ?_
      refine ZK ?_
      refine ZK ?_
      refine ZM ?_
      refine relEnd fun w18 hw18 => fill_end ?_
      go_wp2
      go_ret
      exact ⟨rfl, B15.trans (hw18.drew.mono B15.size)⟩
theorem law_WatchNotes (S : List (List UInt8 × Sl)) (As At An : Option Addr) (ns cs nt ct nn cn : Nat) (hS : S.length = ns) (hns : ns ≤ maxLen) (T : List (List UInt8)) (hT : T.length = nt) (N : List Sn) (hN : N.length = nn)
  (ver lock : Nat) (hv : ver < 4294967296) (hlk : lock < 4294967296) (l : List (TIn × Sl)) (m : List (TOut × Sl)) (A1 A2 : Option Addr) (n1 n2 c1 c2 : Nat) (hn1 : l.length = n1) (hn2 : m.length = n2) (hm1 : n1 ≤ maxLen) (hm2 : n2 ≤ maxLen) (sb : List UInt8) (B : Option Addr) (q d : Nat) (hq : sb.length = q)
  (w : World) (ht : Tabs w) (rS : RdBss w As S) (rT : RdHs w At T) (rN : RdSns w An N) (rI : RdIns w A1 l) (rO : RdOuts w A2 m) (rB : Rd w B (sb.map bv)) :
  Calls Tryd.prog 4 #[.agg (wtc As At An ns cs nt ct nn cn).toArray, .agg #[.int .u32 (ver : Int), .slice A1 n1 c1, .slice A2 n2 c2, .int .u32 (lock : Int)], .slice B q d] w fun e w' => e = .returned (.bool true) ∧ Below w.heap.size w w' := by
 by_cases hfar : wFew (S.map (·.1)) nt nn = true ∧ txFew (txOf ver l m lock) = true ∧ q ≤ 300
 ·exact wnot_main S As At An ns cs nt ct nn cn hS hns T hT N hN ver lock hv hlk l m A1 A2 n1 n2 c1 c2 hn1 hn2 hm1 hm2 sb B q d hq w ht rS rT rN rI rO rB hfar.1 hfar.2.1 hfar.2.2
 ·exact wnot_far S As At An ns cs nt ct nn cn hS hns T hT N hN ver lock hv hlk l m A1 A2 n1 n2 c1 c2 hn1 hn2 hm1 hm2 sb B q d hq w ht rS rT rN rI rO rB hfar
end Go.Proofs.YtobjgebojhjhnaaDoor
