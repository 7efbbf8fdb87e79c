import Derived.Test.YtobjgebojhjhnaaDoorQr15
import Derived.Test.YtobjgebojhjhnaaDoorTxD
namespace Go.Proofs.YtobjgebojhjhnaaDoor
open Go.RowKit
def noteB (S T : List (List UInt8)) (t : TTx) : Bool := txSane t && txT t S T && !(T.contains (dblB (txB t))) && decide (T.length < 4096)
def wNote (S T : List (List UInt8)) (t : TTx) : List (List UInt8) × Bool := if noteB S T t then (T ++ [dblB (txB t)], true) else (T, false)
set_option maxRecDepth 10000 in
set_option maxHeartbeats 4000000 in
theorem WNote_bad (ver lock : Nat) (_ : ver < 4294967296) (_ : lock < 4294967296) (l : List (TIn × Sl)) (m : List (TOut × Sl)) (A1 A2 : Option Addr) (n1 n2 c1 c2 : Nat) (hn1 : l.length = n1) (hn2 : m.length = n2) (S : List (List UInt8 × Sl)) (As At An : Option Addr) (ns cs nt ct nn cn : Nat) (_ : S.length = ns) (_ : ns ≤ 100000) (T : List (List UInt8)) (_ : T.length = nt) (_ : nt ≤ 90000) (hs : txSane (txOf ver l m lock) = false) (w : World) (ht : Tabs w) (h1 : RdIns w A1 l) (h2 : RdOuts w A2 m) (rS : RdBss w As S) (rT : RdHs w At T) :
  Calls Tryd.prog 20 #[.agg (wtc As At An ns cs nt ct nn cn).toArray, .agg #[.int .u32 (ver : Int), .slice A1 n1 c1, .slice A2 n2 c2, .int .u32 (lock : Int)]] w fun e w' => e = .returned (.tuple #[.agg (wtc As At An ns cs nt ct nn cn).toArray, .bool false]) ∧ Below w.heap.size w w' := by
 obtain ⟨W, hW⟩ : ∃ W, W = ((w.alloc (.cells (wtc As At An ns cs nt ct nn cn).toArray 42)).alloc (.cells [.int .u32 (ver : Int), .slice A1 n1 c1, .slice A2 n2 c2, .int .u32 (lock : Int)].toArray 75)).alloc (.cells #[.slice none 0 0, .slice none 0 0, .slice none 0 0] 42) := ⟨_, rfl⟩
 obtain ⟨H, hH⟩ : ∃ H, H = w.heap.size := ⟨_, rfl⟩
 have aW : Av W H 42 (wtc As At An ns cs nt ct nn cn) := by rw [hW, hH]; exact Av.alloc (heap_alloc2_old _ _ _) _
 have xW : Av W (H + 1) 75 [.int .u32 (ver : Int), .slice A1 n1 c1, .slice A2 n2 c2, .int .u32 (lock : Int)] := by rw [hW, hH]; exact Av.alloc (heap_alloc2_new _ _ _) _
 have zW : Av W (H + 2) 42 [.slice none 0 0, .slice none 0 0, .slice none 0 0] := by
  have e : ∀ (v : World) (o : Obj), (v.alloc o).heap.size = v.heap.size + 1 := fun v o => by simp
  have := heap_alloc_new ((w.alloc (.cells (wtc As At An ns cs nt ct nn cn).toArray 42)).alloc (.cells [.int .u32 (ver : Int), .slice A1 n1 c1, .slice A2 n2 c2, .int .u32 (lock : Int)].toArray 75)) (.cells #[.slice none 0 0, .slice none 0 0, .slice none 0 0] 42)
  rw [e, e] at this
  rw [hW, hH]; exact this
 have bW : Below w.heap.size w W := by rw [hW]; exact (((Below.refl _ _).alloc (Nat.le_refl _) _).alloc (by simp) _).alloc (by simp; omega) _
 have sz : W.heap.size = H + 3 := by rw [hW, hH]; simp
 have HS := fun w' r1 r2 => TSane ver lock l m A1 A2 n1 n2 c1 c2 hn1 hn2 w' r1 r2
 rw [hs] at HS
 have wone := wtc_one As At An ns cs nt ct nn cn
 have l3 : (wtc As At An ns cs nt ct nn cn).length = 3 := rfl
 have l4 : ([.int .u32 (ver : Int), .slice A1 n1 c1, .slice A2 n2 c2, .int .u32 (lock : Int)] : List Value).length = 4 := rfl
 have hHw : w.heap.size ≤ H := by rw [hH]; exact Nat.le_refl _
 have hH2 : w.heap.size ≤ H + 2 := by omega
 have h1W := h1.below bW
 have h2W := h2.below bW
 have rSW := rS.below bW
 have rTW := rT.below bW
 have htW := ht.below bW
 replace hW := Lib.hid hW
 replace hH := Lib.hid hH
 replace sz := Lib.hid sz
 replace HS := Lib.hid HS
 go_enter Tryd.func20, Tryd.ntmps20
 go_upto_region 1 with fail
 rw [← hW.out, ← hH.out]
 go_wp2_with (first
  | ((with_reducible refine wpList_loadG 75 xW ?_ ?_ _ 4 l4 Tryd.underlying75 ?_ ?_ ?_); rfl; rfl; rfl; kernel_rfl)
  | (go_at_call 47; refine (HS.out W h1W h2W).mono ?_; rintro e w2 ⟨rfl, b2⟩; have B2 := bW.trans (b2.mono bW.size); have a2 := aW.below b2; have x2 := xW.below b2; have z2 := zW.below b2)
  | ((with_reducible refine wpList_loadF 42 a2 ?_ _ 3 l3 Tryd.underlying42 ?_ ?_ ?_); rfl; rfl; kernel_rfl)
  | ((with_reducible refine wpList_storeFA 42 B2 z2 hH2 (wtc As At An ns cs nt ct nn cn) ?_ ?_ 3 l3 ?_ ?_ ?_ ?_); rfl; rfl; kernel_rfl; rfl; exact wone; intro w9 a9 b9 k9 z9))
 refine bodyPost_ret (v := .tuple #[.agg (wtc As At An ns cs nt ct nn cn).toArray, .bool false]) ((results_cellU (C := wtc As At An ns cs nt ct nn cn) (by rfl) (by rfl) a9 _ Tryd.underlying42 rfl 3 l3 (by kernel_rfl)).trans (by rfl)) (by rfl) ?_
 exact ⟨rfl, b9⟩
set_option maxRecDepth 10000 in
set_option maxHeartbeats 4000000 in
theorem WNote_un (ver lock : Nat) (_ : ver < 4294967296) (_ : lock < 4294967296) (l : List (TIn × Sl)) (m : List (TOut × Sl)) (A1 A2 : Option Addr) (n1 n2 c1 c2 : Nat) (hn1 : l.length = n1) (hn2 : m.length = n2) (S : List (List UInt8 × Sl)) (As At An : Option Addr) (ns cs nt ct nn cn : Nat) (hS : S.length = ns) (hns : ns ≤ 100000) (T : List (List UInt8)) (hT : T.length = nt) (hnt : nt ≤ 90000) (hs : txSane (txOf ver l m lock) = true) (htt : txT (txOf ver l m lock) (S.map (·.1)) T = false) (w : World) (ht : Tabs w) (h1 : RdIns w A1 l) (h2 : RdOuts w A2 m) (rS : RdBss w As S) (rT : RdHs w At T) :
  Calls Tryd.prog 20 #[.agg (wtc As At An ns cs nt ct nn cn).toArray, .agg #[.int .u32 (ver : Int), .slice A1 n1 c1, .slice A2 n2 c2, .int .u32 (lock : Int)]] w fun e w' => e = .returned (.tuple #[.agg (wtc As At An ns cs nt ct nn cn).toArray, .bool false]) ∧ Below w.heap.size w w' := by
 obtain ⟨⟨_, k1, k2⟩, _⟩ := (txSane_iff _).1 hs
 simp only [txOf, List.length_map] at k1 k2
 obtain ⟨W, hW⟩ : ∃ W, W = ((w.alloc (.cells (wtc As At An ns cs nt ct nn cn).toArray 42)).alloc (.cells [.int .u32 (ver : Int), .slice A1 n1 c1, .slice A2 n2 c2, .int .u32 (lock : Int)].toArray 75)).alloc (.cells #[.slice none 0 0, .slice none 0 0, .slice none 0 0] 42) := ⟨_, rfl⟩
 obtain ⟨H, hH⟩ : ∃ H, H = w.heap.size := ⟨_, rfl⟩
 have aW : Av W H 42 (wtc As At An ns cs nt ct nn cn) := by rw [hW, hH]; exact Av.alloc (heap_alloc2_old _ _ _) _
 have xW : Av W (H + 1) 75 [.int .u32 (ver : Int), .slice A1 n1 c1, .slice A2 n2 c2, .int .u32 (lock : Int)] := by rw [hW, hH]; exact Av.alloc (heap_alloc2_new _ _ _) _
 have zW : Av W (H + 2) 42 [.slice none 0 0, .slice none 0 0, .slice none 0 0] := by
  have e : ∀ (v : World) (o : Obj), (v.alloc o).heap.size = v.heap.size + 1 := fun v o => by simp
  have := heap_alloc_new ((w.alloc (.cells (wtc As At An ns cs nt ct nn cn).toArray 42)).alloc (.cells [.int .u32 (ver : Int), .slice A1 n1 c1, .slice A2 n2 c2, .int .u32 (lock : Int)].toArray 75)) (.cells #[.slice none 0 0, .slice none 0 0, .slice none 0 0] 42)
  rw [e, e] at this
  rw [hW, hH]; exact this
 have bW : Below w.heap.size w W := by rw [hW]; exact (((Below.refl _ _).alloc (Nat.le_refl _) _).alloc (by simp) _).alloc (by simp; omega) _
 have sz : W.heap.size = H + 3 := by rw [hW, hH]; simp
 have HS := fun w' r1 r2 => TSane ver lock l m A1 A2 n1 n2 c1 c2 hn1 hn2 w' r1 r2
 rw [hs] at HS
 have HTo := fun w' r1 r2 rs rt => TTouch ver lock l m A1 A2 n1 n2 c1 c2 hn1 hn2 (by omega) (by omega) S As ns cs hS (by omega) T At nt ct hT (by omega) w' r1 r2 rs rt _ rfl
 rw [htt] at HTo
 have wone := wtc_one As At An ns cs nt ct nn cn
 have l3 : (wtc As At An ns cs nt ct nn cn).length = 3 := rfl
 have l4 : ([.int .u32 (ver : Int), .slice A1 n1 c1, .slice A2 n2 c2, .int .u32 (lock : Int)] : List Value).length = 4 := rfl
 have hHw : w.heap.size ≤ H := by rw [hH]; exact Nat.le_refl _
 have hH2 : w.heap.size ≤ H + 2 := by omega
 have h1W := h1.below bW
 have h2W := h2.below bW
 have rSW := rS.below bW
 have rTW := rT.below bW
 have htW := ht.below bW
 replace hW := Lib.hid hW
 replace hH := Lib.hid hH
 replace sz := Lib.hid sz
 replace HS := Lib.hid HS
 replace HTo := Lib.hid HTo
 go_enter Tryd.func20, Tryd.ntmps20
 go_upto_region 1 with fail
 rw [← hW.out, ← hH.out]
 go_wp2_with (first
  | ((with_reducible refine wpList_loadG 75 xW ?_ ?_ _ 4 l4 Tryd.underlying75 ?_ ?_ ?_); rfl; rfl; rfl; kernel_rfl)
  | (go_at_call 47; refine (HS.out W h1W h2W).mono ?_; rintro e w2 ⟨rfl, b2⟩; have B2 := bW.trans (b2.mono bW.size); have a2 := aW.below b2; have x2 := xW.below b2; have z2 := zW.below b2; have c0 := a2.cell 0 (.slice As ns cs) rfl; have c1 := a2.cell 1 (.slice At nt ct) rfl; have l1 := h1W.below b2; have l2 := h2W.below b2; have qS := rSW.below b2; have qT := rTW.below b2; have t2 := htW.below b2)
  | ((with_reducible refine wpList_loadG 75 x2 ?_ ?_ _ 4 l4 Tryd.underlying75 ?_ ?_ ?_); rfl; rfl; rfl; kernel_rfl)
  | (go_at_call 23; refine (HTo.out w2 l1 l2 qS qT).mono ?_; rintro e w3 ⟨rfl, b3⟩; have B3 := B2.trans (b3.mono B2.size); have a3 := a2.below b3; have x3 := x2.below b3; have z3 := z2.below b3)
  | ((with_reducible refine wpList_loadF 42 a3 ?_ _ 3 l3 Tryd.underlying42 ?_ ?_ ?_); rfl; rfl; kernel_rfl)
  | ((with_reducible refine wpList_storeFA 42 B3 z3 hH2 (wtc As At An ns cs nt ct nn cn) ?_ ?_ 3 l3 ?_ ?_ ?_ ?_); rfl; rfl; kernel_rfl; rfl; exact wone; intro w9 a9 b9 k9 z9))
 refine bodyPost_ret (v := .tuple #[.agg (wtc As At An ns cs nt ct nn cn).toArray, .bool false]) ((results_cellU (C := wtc As At An ns cs nt ct nn cn) (by rfl) (by rfl) a9 _ Tryd.underlying42 rfl 3 l3 (by kernel_rfl)).trans (by rfl)) (by rfl) ?_
 exact ⟨rfl, b9⟩
set_option maxRecDepth 10000 in
set_option maxHeartbeats 4000000 in
theorem WNote_in (ver lock : Nat) (hv : ver < 4294967296) (hlk : lock < 4294967296) (l : List (TIn × Sl)) (m : List (TOut × Sl)) (A1 A2 : Option Addr) (n1 n2 c1 c2 : Nat) (hn1 : l.length = n1) (hn2 : m.length = n2) (S : List (List UInt8 × Sl)) (As At An : Option Addr) (ns cs nt ct nn cn : Nat) (hS : S.length = ns) (hns : ns ≤ 100000) (T : List (List UInt8)) (hT : T.length = nt) (hnt : nt ≤ 90000) (hs : txSane (txOf ver l m lock) = true) (htt : txT (txOf ver l m lock) (S.map (·.1)) T = true) (hco : T.contains (dblB (txB (txOf ver l m lock))) = true) (w : World) (ht : Tabs w) (h1 : RdIns w A1 l) (h2 : RdOuts w A2 m) (rS : RdBss w As S) (rT : RdHs w At T) :
  Calls Tryd.prog 20 #[.agg (wtc As At An ns cs nt ct nn cn).toArray, .agg #[.int .u32 (ver : Int), .slice A1 n1 c1, .slice A2 n2 c2, .int .u32 (lock : Int)]] w fun e w' => e = .returned (.tuple #[.agg (wtc As At An ns cs nt ct nn cn).toArray, .bool false]) ∧ Below w.heap.size w w' := by
 obtain ⟨⟨_, k1, k2⟩, _⟩ := (txSane_iff _).1 hs
 simp only [txOf, List.length_map] at k1 k2
 obtain ⟨W, hW⟩ : ∃ W, W = ((w.alloc (.cells (wtc As At An ns cs nt ct nn cn).toArray 42)).alloc (.cells [.int .u32 (ver : Int), .slice A1 n1 c1, .slice A2 n2 c2, .int .u32 (lock : Int)].toArray 75)).alloc (.cells #[.slice none 0 0, .slice none 0 0, .slice none 0 0] 42) := ⟨_, rfl⟩
 obtain ⟨H, hH⟩ : ∃ H, H = w.heap.size := ⟨_, rfl⟩
 have aW : Av W H 42 (wtc As At An ns cs nt ct nn cn) := by rw [hW, hH]; exact Av.alloc (heap_alloc2_old _ _ _) _
 have xW : Av W (H + 1) 75 [.int .u32 (ver : Int), .slice A1 n1 c1, .slice A2 n2 c2, .int .u32 (lock : Int)] := by rw [hW, hH]; exact Av.alloc (heap_alloc2_new _ _ _) _
 have zW : Av W (H + 2) 42 [.slice none 0 0, .slice none 0 0, .slice none 0 0] := by
  have e : ∀ (v : World) (o : Obj), (v.alloc o).heap.size = v.heap.size + 1 := fun v o => by simp
  have := heap_alloc_new ((w.alloc (.cells (wtc As At An ns cs nt ct nn cn).toArray 42)).alloc (.cells [.int .u32 (ver : Int), .slice A1 n1 c1, .slice A2 n2 c2, .int .u32 (lock : Int)].toArray 75)) (.cells #[.slice none 0 0, .slice none 0 0, .slice none 0 0] 42)
  rw [e, e] at this
  rw [hW, hH]; exact this
 have bW : Below w.heap.size w W := by rw [hW]; exact (((Below.refl _ _).alloc (Nat.le_refl _) _).alloc (by simp) _).alloc (by simp; omega) _
 have sz : W.heap.size = H + 3 := by rw [hW, hH]; simp
 have HS := fun w' r1 r2 => TSane ver lock l m A1 A2 n1 n2 c1 c2 hn1 hn2 w' r1 r2
 rw [hs] at HS
 have HTo := fun w' r1 r2 rs rt => TTouch ver lock l m A1 A2 n1 n2 c1 c2 hn1 hn2 (by omega) (by omega) S As ns cs hS (by omega) T At nt ct hT (by omega) w' r1 r2 rs rt _ rfl
 rw [htt] at HTo
 have HId := fun w' r1 r2 t => TId_ok ver lock hv hlk l m A1 A2 n1 n2 c1 c2 hn1 hn2 w' r1 r2 t hs
 obtain ⟨I, hI⟩ : ∃ I, I = dblB (txB (txOf ver l m lock)) := ⟨_, rfl⟩
 have I32 : I.length = 32 := by rw [hI]; exact dblB_length _
 rw [← hI] at HId hco
 have HCo := fun w' G (r : RdHs w' At T) (g : Av w' G 23 [.slice At nt ct]) => WAmong1 T I I32 At nt ct G w' r hT (by omega) g
 rw [hco] at HCo
 have hzi : (List.replicate 32 (0 : UInt8)).length = 32 := by simp
 have k32 := Lib.hid (show (I.map bv).length = 32 by rw [List.length_map, I32])
 have ione := Lib.hid (show (I.map bv).all (·.oneCell') = true by rw [List.all_eq_true]; exact bv_one I)
 have wone := wtc_one As At An ns cs nt ct nn cn
 have l3 : (wtc As At An ns cs nt ct nn cn).length = 3 := rfl
 have l4 : ([.int .u32 (ver : Int), .slice A1 n1 c1, .slice A2 n2 c2, .int .u32 (lock : Int)] : List Value).length = 4 := rfl
 have hHw : w.heap.size ≤ H := by rw [hH]; exact Nat.le_refl _
 have hH2 : w.heap.size ≤ H + 2 := by omega
 have h1W := h1.below bW
 have h2W := h2.below bW
 have rSW := rS.below bW
 have rTW := rT.below bW
 have htW := ht.below bW
 replace hW := Lib.hid hW
 replace hH := Lib.hid hH
 replace sz := Lib.hid sz
 replace HS := Lib.hid HS
 replace HTo := Lib.hid HTo
 replace HId := Lib.hid HId
 replace HCo := Lib.hid HCo
 replace hI := Lib.hid hI
 replace hco := Lib.hid hco
 replace I32 := Lib.hid I32
 go_enter Tryd.func20, Tryd.ntmps20
 go_upto_region 1 with fail
 rw [← hW.out, ← hH.out]
 go_upto_region 4 with (first
  | ((with_reducible refine wpList_loadG 75 xW ?_ ?_ _ 4 l4 Tryd.underlying75 ?_ ?_ ?_); rfl; rfl; rfl; kernel_rfl)
  | (go_at_call 47; refine (HS.out W h1W h2W).mono ?_; rintro e w2 ⟨rfl, b2⟩; have B2 := bW.trans (b2.mono bW.size); have a2 := aW.below b2; have x2 := xW.below b2; have z2 := zW.below b2; have c0 := a2.cell 0 (.slice As ns cs) rfl; have c1 := a2.cell 1 (.slice At nt ct) rfl; have l1 := h1W.below b2; have l2 := h2W.below b2; have qS := rSW.below b2; have qT := rTW.below b2; have t2 := htW.below b2)
  | ((with_reducible refine wpList_loadG 75 x2 ?_ ?_ _ 4 l4 Tryd.underlying75 ?_ ?_ ?_); rfl; rfl; rfl; kernel_rfl)
  | (go_at_call 23; refine (HTo.out w2 l1 l2 qS qT).mono ?_; rintro e w3 ⟨rfl, b3⟩; have B3 := B2.trans (b3.mono B2.size); have a3 := a2.below b3; have x3 := x2.below b3; have z3 := z2.below b3; have l13 := l1.below b3; have l23 := l2.below b3; have qT3 := qT.below b3; have t3 := t2.below b3)
  | ((with_reducible refine wpList_loadG 75 x3 ?_ ?_ _ 4 l4 Tryd.underlying75 ?_ ?_ ?_); rfl; rfl; rfl; kernel_rfl)
  | (go_at_call 22; refine (HId.out w3 l13 l23 t3).mono ?_; rintro e w4 ⟨rfl, b4⟩)
  | ((with_reducible refine wpList_storeF 30 ((Below.refl w4.heap.size w4).alloc (Nat.le_refl _) _) (heap_alloc_new _ _) (Nat.le_refl _) (I.map bv) ?_ ?_ 32 k32.out ?_ ?_ ?_ ?_); rfl; rfl; kernel_rfl; (first | rfl | simp); exact ione.out; intro w5 a5 b5 k5 z5; clear k5; replace z5 := Lib.hid z5))
 obtain ⟨G, hG⟩ : ∃ G, G = w4.heap.size := ⟨_, rfl⟩
 rw [← hG] at a5 ⊢
 have b45 := b4.trans (b5.mono b4.size)
 have B5 := B3.trans (b45.mono B3.size)
 have aa := a3.below b45
 have zz := z3.below b45
 have qT5 := qT3.below b45
 have d1 := aa.cell 1 (.slice At nt ct) rfl
 replace hG := Lib.hid hG
 go_upto_region 5 with (go_at_call 34; refine (WAmong At nt ct w5).mono ?_; rintro e w6 ⟨rfl, h6⟩; replace h6 := Lib.hid h6)
 have b6 : Below w5.heap.size w5 w6 := by rw [h6.out]; exact (Below.refl _ _).alloc (Nat.le_refl _) _
 have g6 : Av w6 w5.heap.size 23 [.slice At nt ct] := by rw [h6.out]; exact heap_alloc_new _ _
 have B6 := B5.trans (b6.mono B5.size)
 have a6 := aa.below b6
 have z6 := zz.below b6
 have i6 := a5.below b6
 have qT6 := qT5.below b6
 have e1 := a6.cell 1 (.slice At nt ct) rfl
 clear b2 b3 b4 b5 b45 c0 c1 d1
 go_wp2_with (first
  | ((with_reducible refine wpList_loadG 30 i6 ?_ ?_ _ 32 k32.out Tryd.underlying30 ?_ ?_ ?_); rfl; rfl; rfl; kernel_rfl)
  | (go_at_call 60; refine (HCo.out w6 w5.heap.size qT6 g6).mono ?_; rintro e w7 ⟨rfl, b7⟩; have B7 := B6.trans (b7.mono B6.size); have a7 := a6.below b7; have z7 := z6.below b7; have i7 := i6.below b7; have qT7 := qT6.below b7; have e7 := a7.cell 1 (.slice At nt ct) rfl)
  | ((with_reducible refine wpList_loadF 42 a7 ?_ _ 3 l3 Tryd.underlying42 ?_ ?_ ?_); rfl; rfl; kernel_rfl)
  | ((with_reducible refine wpList_storeFA 42 B7 z7 hH2 (wtc As At An ns cs nt ct nn cn) ?_ ?_ 3 l3 ?_ ?_ ?_ ?_); rfl; rfl; kernel_rfl; rfl; exact wone; intro w9 a9 b9 k9 z9))
 refine bodyPost_ret (v := .tuple #[.agg (wtc As At An ns cs nt ct nn cn).toArray, .bool false]) ((results_cellU (C := wtc As At An ns cs nt ct nn cn) (by rfl) (by rfl) a9 _ Tryd.underlying42 rfl 3 l3 (by kernel_rfl)).trans (by rfl)) (by rfl) ?_
 exact ⟨rfl, b9⟩
set_option maxRecDepth 10000 in
set_option maxHeartbeats 4000000 in
theorem WNote_full (ver lock : Nat) (hv : ver < 4294967296) (hlk : lock < 4294967296) (l : List (TIn × Sl)) (m : List (TOut × Sl)) (A1 A2 : Option Addr) (n1 n2 c1 c2 : Nat) (hn1 : l.length = n1) (hn2 : m.length = n2) (S : List (List UInt8 × Sl)) (As At An : Option Addr) (ns cs nt ct nn cn : Nat) (hS : S.length = ns) (hns : ns ≤ 100000) (T : List (List UInt8)) (hT : T.length = nt) (hnt : nt ≤ 90000) (hs : txSane (txOf ver l m lock) = true) (htt : txT (txOf ver l m lock) (S.map (·.1)) T = true) (hco : T.contains (dblB (txB (txOf ver l m lock))) = false) (hfu : 4096 ≤ nt) (w : World) (ht : Tabs w) (h1 : RdIns w A1 l) (h2 : RdOuts w A2 m) (rS : RdBss w As S) (rT : RdHs w At T) :
  Calls Tryd.prog 20 #[.agg (wtc As At An ns cs nt ct nn cn).toArray, .agg #[.int .u32 (ver : Int), .slice A1 n1 c1, .slice A2 n2 c2, .int .u32 (lock : Int)]] w fun e w' => e = .returned (.tuple #[.agg (wtc As At An ns cs nt ct nn cn).toArray, .bool false]) ∧ Below w.heap.size w w' := by
 obtain ⟨⟨_, k1, k2⟩, _⟩ := (txSane_iff _).1 hs
 simp only [txOf, List.length_map] at k1 k2
 obtain ⟨W, hW⟩ : ∃ W, W = ((w.alloc (.cells (wtc As At An ns cs nt ct nn cn).toArray 42)).alloc (.cells [.int .u32 (ver : Int), .slice A1 n1 c1, .slice A2 n2 c2, .int .u32 (lock : Int)].toArray 75)).alloc (.cells #[.slice none 0 0, .slice none 0 0, .slice none 0 0] 42) := ⟨_, rfl⟩
 obtain ⟨H, hH⟩ : ∃ H, H = w.heap.size := ⟨_, rfl⟩
 have aW : Av W H 42 (wtc As At An ns cs nt ct nn cn) := by rw [hW, hH]; exact Av.alloc (heap_alloc2_old _ _ _) _
 have xW : Av W (H + 1) 75 [.int .u32 (ver : Int), .slice A1 n1 c1, .slice A2 n2 c2, .int .u32 (lock : Int)] := by rw [hW, hH]; exact Av.alloc (heap_alloc2_new _ _ _) _
 have zW : Av W (H + 2) 42 [.slice none 0 0, .slice none 0 0, .slice none 0 0] := by
  have e : ∀ (v : World) (o : Obj), (v.alloc o).heap.size = v.heap.size + 1 := fun v o => by simp
  have := heap_alloc_new ((w.alloc (.cells (wtc As At An ns cs nt ct nn cn).toArray 42)).alloc (.cells [.int .u32 (ver : Int), .slice A1 n1 c1, .slice A2 n2 c2, .int .u32 (lock : Int)].toArray 75)) (.cells #[.slice none 0 0, .slice none 0 0, .slice none 0 0] 42)
  rw [e, e] at this
  rw [hW, hH]; exact this
 have bW : Below w.heap.size w W := by rw [hW]; exact (((Below.refl _ _).alloc (Nat.le_refl _) _).alloc (by simp) _).alloc (by simp; omega) _
 have sz : W.heap.size = H + 3 := by rw [hW, hH]; simp
 have HS := fun w' r1 r2 => TSane ver lock l m A1 A2 n1 n2 c1 c2 hn1 hn2 w' r1 r2
 rw [hs] at HS
 have HTo := fun w' r1 r2 rs rt => TTouch ver lock l m A1 A2 n1 n2 c1 c2 hn1 hn2 (by omega) (by omega) S As ns cs hS (by omega) T At nt ct hT (by omega) w' r1 r2 rs rt _ rfl
 rw [htt] at HTo
 have HId := fun w' r1 r2 t => TId_ok ver lock hv hlk l m A1 A2 n1 n2 c1 c2 hn1 hn2 w' r1 r2 t hs
 obtain ⟨I, hI⟩ : ∃ I, I = dblB (txB (txOf ver l m lock)) := ⟨_, rfl⟩
 have I32 : I.length = 32 := by rw [hI]; exact dblB_length _
 rw [← hI] at HId hco
 have HCo := fun w' G (r : RdHs w' At T) (g : Av w' G 23 [.slice At nt ct]) => WAmong1 T I I32 At nt ct G w' r hT (by omega) g
 rw [hco] at HCo
 have hzi : (List.replicate 32 (0 : UInt8)).length = 32 := by simp
 have k32 := Lib.hid (show (I.map bv).length = 32 by rw [List.length_map, I32])
 have ione := Lib.hid (show (I.map bv).all (·.oneCell') = true by rw [List.all_eq_true]; exact bv_one I)
 have wone := wtc_one As At An ns cs nt ct nn cn
 have l3 : (wtc As At An ns cs nt ct nn cn).length = 3 := rfl
 have l4 : ([.int .u32 (ver : Int), .slice A1 n1 c1, .slice A2 n2 c2, .int .u32 (lock : Int)] : List Value).length = 4 := rfl
 have hHw : w.heap.size ≤ H := by rw [hH]; exact Nat.le_refl _
 have hH2 : w.heap.size ≤ H + 2 := by omega
 have h1W := h1.below bW
 have h2W := h2.below bW
 have rSW := rS.below bW
 have rTW := rT.below bW
 have htW := ht.below bW
 have tf : decide ((4096 : Int) ≤ (nt : Int)) = true := by simp; omega
 replace hW := Lib.hid hW
 replace hH := Lib.hid hH
 replace sz := Lib.hid sz
 replace HS := Lib.hid HS
 replace HTo := Lib.hid HTo
 replace HId := Lib.hid HId
 replace HCo := Lib.hid HCo
 replace hI := Lib.hid hI
 replace hco := Lib.hid hco
 replace I32 := Lib.hid I32
 go_enter Tryd.func20, Tryd.ntmps20
 go_upto_region 1 with fail
 rw [← hW.out, ← hH.out]
 go_upto_region 4 with (first
  | ((with_reducible refine wpList_loadG 75 xW ?_ ?_ _ 4 l4 Tryd.underlying75 ?_ ?_ ?_); rfl; rfl; rfl; kernel_rfl)
  | (go_at_call 47; refine (HS.out W h1W h2W).mono ?_; rintro e w2 ⟨rfl, b2⟩; have B2 := bW.trans (b2.mono bW.size); have a2 := aW.below b2; have x2 := xW.below b2; have z2 := zW.below b2; have c0 := a2.cell 0 (.slice As ns cs) rfl; have c1 := a2.cell 1 (.slice At nt ct) rfl; have l1 := h1W.below b2; have l2 := h2W.below b2; have qS := rSW.below b2; have qT := rTW.below b2; have t2 := htW.below b2)
  | ((with_reducible refine wpList_loadG 75 x2 ?_ ?_ _ 4 l4 Tryd.underlying75 ?_ ?_ ?_); rfl; rfl; rfl; kernel_rfl)
  | (go_at_call 23; refine (HTo.out w2 l1 l2 qS qT).mono ?_; rintro e w3 ⟨rfl, b3⟩; have B3 := B2.trans (b3.mono B2.size); have a3 := a2.below b3; have x3 := x2.below b3; have z3 := z2.below b3; have l13 := l1.below b3; have l23 := l2.below b3; have qT3 := qT.below b3; have t3 := t2.below b3)
  | ((with_reducible refine wpList_loadG 75 x3 ?_ ?_ _ 4 l4 Tryd.underlying75 ?_ ?_ ?_); rfl; rfl; rfl; kernel_rfl)
  | (go_at_call 22; refine (HId.out w3 l13 l23 t3).mono ?_; rintro e w4 ⟨rfl, b4⟩)
  | ((with_reducible refine wpList_storeF 30 ((Below.refl w4.heap.size w4).alloc (Nat.le_refl _) _) (heap_alloc_new _ _) (Nat.le_refl _) (I.map bv) ?_ ?_ 32 k32.out ?_ ?_ ?_ ?_); rfl; rfl; kernel_rfl; (first | rfl | simp); exact ione.out; intro w5 a5 b5 k5 z5; clear k5; replace z5 := Lib.hid z5))
 obtain ⟨G, hG⟩ : ∃ G, G = w4.heap.size := ⟨_, rfl⟩
 rw [← hG] at a5 ⊢
 have b45 := b4.trans (b5.mono b4.size)
 have B5 := B3.trans (b45.mono B3.size)
 have aa := a3.below b45
 have zz := z3.below b45
 have qT5 := qT3.below b45
 have d1 := aa.cell 1 (.slice At nt ct) rfl
 replace hG := Lib.hid hG
 go_upto_region 5 with (go_at_call 34; refine (WAmong At nt ct w5).mono ?_; rintro e w6 ⟨rfl, h6⟩; replace h6 := Lib.hid h6)
 have b6 : Below w5.heap.size w5 w6 := by rw [h6.out]; exact (Below.refl _ _).alloc (Nat.le_refl _) _
 have g6 : Av w6 w5.heap.size 23 [.slice At nt ct] := by rw [h6.out]; exact heap_alloc_new _ _
 have B6 := B5.trans (b6.mono B5.size)
 have a6 := aa.below b6
 have z6 := zz.below b6
 have i6 := a5.below b6
 have qT6 := qT5.below b6
 have e1 := a6.cell 1 (.slice At nt ct) rfl
 clear b2 b3 b4 b5 b45 c0 c1 d1
 go_wp2_with (first
  | ((with_reducible refine wpList_loadG 30 i6 ?_ ?_ _ 32 k32.out Tryd.underlying30 ?_ ?_ ?_); rfl; rfl; rfl; kernel_rfl)
  | (go_at_call 60; refine (HCo.out w6 w5.heap.size qT6 g6).mono ?_; rintro e w7 ⟨rfl, b7⟩; have B7 := B6.trans (b7.mono B6.size); have a7 := a6.below b7; have z7 := z6.below b7; have i7 := i6.below b7; have qT7 := qT6.below b7; have e7 := a7.cell 1 (.slice At nt ct) rfl)
  | ((with_reducible refine wpList_loadF 42 a7 ?_ _ 3 l3 Tryd.underlying42 ?_ ?_ ?_); rfl; rfl; kernel_rfl)
  | ((with_reducible refine wpList_storeFA 42 B7 z7 hH2 (wtc As At An ns cs nt ct nn cn) ?_ ?_ 3 l3 ?_ ?_ ?_ ?_); rfl; rfl; kernel_rfl; rfl; exact wone; intro w9 a9 b9 k9 z9))
 refine bodyPost_ret (v := .tuple #[.agg (wtc As At An ns cs nt ct nn cn).toArray, .bool false]) ((results_cellU (C := wtc As At An ns cs nt ct nn cn) (by rfl) (by rfl) a9 _ Tryd.underlying42 rfl 3 l3 (by kernel_rfl)).trans (by rfl)) (by rfl) ?_
 exact ⟨rfl, b9⟩
def OwnHs (b n : Nat) (T : List (List UInt8)) : VP := fun v w => w.ownsRow b 30 32 v n (hcl T)
theorem OwnHs.mono {b n : Nat} {T : List (List UInt8)} {v : Value} {w w' : World} (h : Ext w w') : OwnHs b n T v w → OwnHs b n T v w' := fun o => own_below o h
def SlH1 (I : List UInt8) : VP := fun v w => ∃ k, v = .slice (some ⟨k, 0, none⟩) 1 1 ∧ Rd w (some ⟨k, 0, none⟩) (I.map bv)
theorem SlH1.mono {I : List UInt8} {v : Value} {w w' : World} (h : Ext w w') : SlH1 I v w → SlH1 I v w' := by
 rintro ⟨k, rfl, h1⟩
 exact ⟨k, rfl, h1.below h⟩
theorem size_hs1 : (Tryd.prog.info? 23).map (·.size) = some 1 := by kernel_rfl
theorem infoHh : (Tryd.prog.info? 30).map (fun i => (i.size, i.bytes)) = some (32, 32) := by kernel_rfl
theorem zeroHh : (Tryd.prog.info? 30).map (fun i => (i.zero.map (·.cells.size))) = some (some 32) := by kernel_rfl
set_option maxRecDepth 10000 in
set_option maxHeartbeats 4000000 in
theorem WNote_ok (ver lock : Nat) (hv : ver < 4294967296) (hlk : lock < 4294967296) (l : List (TIn × Sl)) (m : List (TOut × Sl)) (A1 A2 : Option Addr) (n1 n2 c1 c2 : Nat) (hn1 : l.length = n1) (hn2 : m.length = n2) (S : List (List UInt8 × Sl)) (As At An : Option Addr) (ns cs nt ct nn cn : Nat) (hS : S.length = ns) (hns : ns ≤ 100000) (T : List (List UInt8)) (hT : T.length = nt) (hnt : nt ≤ 90000) (hs : txSane (txOf ver l m lock) = true) (htt : txT (txOf ver l m lock) (S.map (·.1)) T = true) (hco : T.contains (dblB (txB (txOf ver l m lock))) = false) (hfu : nt < 4096) (w : World) (ht : Tabs w) (h1 : RdIns w A1 l) (h2 : RdOuts w A2 m) (rS : RdBss w As S) (rT : RdHs w At T) :
  Calls Tryd.prog 20 #[.agg (wtc As At An ns cs nt ct nn cn).toArray, .agg #[.int .u32 (ver : Int), .slice A1 n1 c1, .slice A2 n2 c2, .int .u32 (lock : Int)]] w fun e w' => ∃ A' c', e = .returned (.tuple #[.agg (wtc As A' An ns cs (nt + 1) c' nn cn).toArray, .bool true]) ∧ RdHs w' A' (T ++ [dblB (txB (txOf ver l m lock))]) ∧ Below w.heap.size w w' := by
 obtain ⟨⟨_, k1, k2⟩, _⟩ := (txSane_iff _).1 hs
 simp only [txOf, List.length_map] at k1 k2
 obtain ⟨W, hW⟩ : ∃ W, W = ((w.alloc (.cells (wtc As At An ns cs nt ct nn cn).toArray 42)).alloc (.cells [.int .u32 (ver : Int), .slice A1 n1 c1, .slice A2 n2 c2, .int .u32 (lock : Int)].toArray 75)).alloc (.cells #[.slice none 0 0, .slice none 0 0, .slice none 0 0] 42) := ⟨_, rfl⟩
 obtain ⟨H, hH⟩ : ∃ H, H = w.heap.size := ⟨_, rfl⟩
 have aW : Av W H 42 (wtc As At An ns cs nt ct nn cn) := by rw [hW, hH]; exact Av.alloc (heap_alloc2_old _ _ _) _
 have xW : Av W (H + 1) 75 [.int .u32 (ver : Int), .slice A1 n1 c1, .slice A2 n2 c2, .int .u32 (lock : Int)] := by rw [hW, hH]; exact Av.alloc (heap_alloc2_new _ _ _) _
 have zW : Av W (H + 2) 42 [.slice none 0 0, .slice none 0 0, .slice none 0 0] := by
  have e : ∀ (v : World) (o : Obj), (v.alloc o).heap.size = v.heap.size + 1 := fun v o => by simp
  have := heap_alloc_new ((w.alloc (.cells (wtc As At An ns cs nt ct nn cn).toArray 42)).alloc (.cells [.int .u32 (ver : Int), .slice A1 n1 c1, .slice A2 n2 c2, .int .u32 (lock : Int)].toArray 75)) (.cells #[.slice none 0 0, .slice none 0 0, .slice none 0 0] 42)
  rw [e, e] at this
  rw [hW, hH]; exact this
 have bW : Below w.heap.size w W := by rw [hW]; exact (((Below.refl _ _).alloc (Nat.le_refl _) _).alloc (by simp) _).alloc (by simp; omega) _
 have sz : W.heap.size = H + 3 := by rw [hW, hH]; simp
 have HS := fun w' r1 r2 => TSane ver lock l m A1 A2 n1 n2 c1 c2 hn1 hn2 w' r1 r2
 rw [hs] at HS
 have HTo := fun w' r1 r2 rs rt => TTouch ver lock l m A1 A2 n1 n2 c1 c2 hn1 hn2 (by omega) (by omega) S As ns cs hS (by omega) T At nt ct hT (by omega) w' r1 r2 rs rt _ rfl
 rw [htt] at HTo
 have HId := fun w' r1 r2 t => TId_ok ver lock hv hlk l m A1 A2 n1 n2 c1 c2 hn1 hn2 w' r1 r2 t hs
 obtain ⟨I, hI⟩ : ∃ I, I = dblB (txB (txOf ver l m lock)) := ⟨_, rfl⟩
 have I32 : I.length = 32 := by rw [hI]; exact dblB_length _
 rw [← hI] at HId hco ⊢
 have HCo := fun w' G (r : RdHs w' At T) (g : Av w' G 23 [.slice At nt ct]) => WAmong1 T I I32 At nt ct G w' r hT (by omega) g
 rw [hco] at HCo
 have hzi : (List.replicate 32 (0 : UInt8)).length = 32 := by simp
 have k32 := Lib.hid (show (I.map bv).length = 32 by rw [List.length_map, I32])
 have ione := Lib.hid (show (I.map bv).all (·.oneCell') = true by rw [List.all_eq_true]; exact bv_one I)
 have wone := wtc_one As At An ns cs nt ct nn cn
 have l3 : (wtc As At An ns cs nt ct nn cn).length = 3 := rfl
 have l4 : ([.int .u32 (ver : Int), .slice A1 n1 c1, .slice A2 n2 c2, .int .u32 (lock : Int)] : List Value).length = 4 := rfl
 have hHw : w.heap.size ≤ H := by rw [hH]; exact Nat.le_refl _
 have hH2 : w.heap.size ≤ H + 2 := by omega
 have h1W := h1.below bW
 have h2W := h2.below bW
 have rSW := rS.below bW
 have rTW := rT.below bW
 have htW := ht.below bW
 have tf : decide ((4096 : Int) ≤ (nt : Int)) = false := by simp; omega
 have HCl := fun w' (r : RdHs w' At T) => CloneH T rT.2 At nt ct w' r.1 hT (by omega)
 replace hW := Lib.hid hW
 replace hH := Lib.hid hH
 replace sz := Lib.hid sz
 replace HS := Lib.hid HS
 replace HTo := Lib.hid HTo
 replace HId := Lib.hid HId
 replace HCo := Lib.hid HCo
 replace HCl := Lib.hid HCl
 replace hI := Lib.hid hI
 replace hco := Lib.hid hco
 replace I32 := Lib.hid I32
 go_enter Tryd.func20, Tryd.ntmps20
 go_upto_region 1 with fail
 rw [← hW.out, ← hH.out]
 go_upto_region 4 with (first
  | ((with_reducible refine wpList_loadG 75 xW ?_ ?_ _ 4 l4 Tryd.underlying75 ?_ ?_ ?_); rfl; rfl; rfl; kernel_rfl)
  | (go_at_call 47; refine (HS.out W h1W h2W).mono ?_; rintro e w2 ⟨rfl, b2⟩; have B2 := bW.trans (b2.mono bW.size); have a2 := aW.below b2; have x2 := xW.below b2; have z2 := zW.below b2; have c0 := a2.cell 0 (.slice As ns cs) rfl; have c1 := a2.cell 1 (.slice At nt ct) rfl; have l1 := h1W.below b2; have l2 := h2W.below b2; have qS := rSW.below b2; have qT := rTW.below b2; have t2 := htW.below b2)
  | ((with_reducible refine wpList_loadG 75 x2 ?_ ?_ _ 4 l4 Tryd.underlying75 ?_ ?_ ?_); rfl; rfl; rfl; kernel_rfl)
  | (go_at_call 23; refine (HTo.out w2 l1 l2 qS qT).mono ?_; rintro e w3 ⟨rfl, b3⟩; have B3 := B2.trans (b3.mono B2.size); have a3 := a2.below b3; have x3 := x2.below b3; have z3 := z2.below b3; have l13 := l1.below b3; have l23 := l2.below b3; have qT3 := qT.below b3; have t3 := t2.below b3)
  | ((with_reducible refine wpList_loadG 75 x3 ?_ ?_ _ 4 l4 Tryd.underlying75 ?_ ?_ ?_); rfl; rfl; rfl; kernel_rfl)
  | (go_at_call 22; refine (HId.out w3 l13 l23 t3).mono ?_; rintro e w4 ⟨rfl, b4⟩)
  | ((with_reducible refine wpList_storeF 30 ((Below.refl w4.heap.size w4).alloc (Nat.le_refl _) _) (heap_alloc_new _ _) (Nat.le_refl _) (I.map bv) ?_ ?_ 32 k32.out ?_ ?_ ?_ ?_); rfl; rfl; kernel_rfl; (first | rfl | simp); exact ione.out; intro w5 a5 b5 k5 z5; clear k5; replace z5 := Lib.hid z5))
 obtain ⟨G, hG⟩ : ∃ G, G = w4.heap.size := ⟨_, rfl⟩
 rw [← hG] at a5 ⊢
 have b45 := b4.trans (b5.mono b4.size)
 have B5 := B3.trans (b45.mono B3.size)
 have aa := a3.below b45
 have zz := z3.below b45
 have qT5 := qT3.below b45
 have d1 := aa.cell 1 (.slice At nt ct) rfl
 replace hG := Lib.hid hG
 go_upto_region 5 with (go_at_call 34; refine (WAmong At nt ct w5).mono ?_; rintro e w6 ⟨rfl, h6⟩; replace h6 := Lib.hid h6)
 have b6 : Below w5.heap.size w5 w6 := by rw [h6.out]; exact (Below.refl _ _).alloc (Nat.le_refl _) _
 have g6 : Av w6 w5.heap.size 23 [.slice At nt ct] := by rw [h6.out]; exact heap_alloc_new _ _
 have B6 := B5.trans (b6.mono B5.size)
 have a6 := aa.below b6
 have z6 := zz.below b6
 have i6 := a5.below b6
 have qT6 := qT5.below b6
 have e1 := a6.cell 1 (.slice At nt ct) rfl
 clear b2 b3 b4 b5 b45 c0 c1 d1
 go_upto_region 7 with (first
  | ((with_reducible refine wpList_loadG 30 i6 ?_ ?_ _ 32 k32.out Tryd.underlying30 ?_ ?_ ?_); rfl; rfl; rfl; kernel_rfl)
  | (go_at_call 60; refine (HCo.out w6 w5.heap.size qT6 g6).mono ?_; rintro e w7 ⟨rfl, b7⟩; have B7 := B6.trans (b7.mono B6.size); have a7 := a6.below b7; have z7 := z6.below b7; have i7 := i6.below b7; have qT7 := qT6.below b7; have e7 := a7.cell 1 (.slice At nt ct) rfl))
 have hb7 : H + 3 ≤ w7.heap.size := by have q1 := zz.lt; have q2 := b6.size; have q3 := b7.size; omega
 refine wp_region_relT 5 [(2, OwnHs w7.heap.size nt T), (4, SlH1 I)] Ext (by kernel_rfl) (by kernel_rfl) (by kernel_rfl) (by kernel_rfl) (by kernel_rfl) Ext.refl Ext.trans (by intro p hp v w w' hR; simp only [List.mem_cons, List.not_mem_nil, or_false] at hp; rcases hp with rfl | rfl; exact OwnHs.mono hR; exact SlH1.mono hR) ?_
 refine ZP (c := .pointer (some ⟨H, 1, none⟩)) (fun w _ => by go_simp; first | done | rfl) ?_
 refine ZP (c := .slice At nt ct) (fun w hw => by have := (a7.below hw.drew).cell 1 _ rfl; go_simp; first | done | rfl) ?_
 refine relWord _ rfl (fun w hw => fill_none rfl (relOp_yes rfl (relRes_enterW 48 #[.slice At nt ct] (by go_simp) ((HCl.out w (qT7.below hw.drew)).mono ?_)))) ?_
 ·rintro e w' ⟨v, rfl, o, b⟩
  exact ⟨v, rfl, b, o.lowS hw.drew.size⟩
 refine ZP (c := .agg (I.map bv).toArray) (fun w hw => exec_loadAv (i7.below hw.drew) _ _ rfl rfl _ 32 k32.out Tryd.underlying30 rfl (by kernel_rfl)) ?_
 refine relWord _ rfl (fun w hw => fill_skip rfl (fill_none rfl (relOp_yes rfl ?_))) ?_
 ·rw [exec_buildV Tryd.underlying23 infoHh zeroHh (by decide) (by decide) w (I.map bv) k32.out (.agg (I.map bv).toArray) rfl _ rfl rfl]
  exact ⟨(Below.refl _ _).alloc (Nat.le_refl _) _, w.heap.size, rfl, Av.rd (t := 30) (heap_alloc_new _ _)⟩
 refine relEnd fun w8 hw8 => fill_take rfl rfl fun v1 hv1 => fill_take rfl rfl fun v2 hv2 => fill_end ?_
 obtain ⟨kq, rfl, q1⟩ := hv2
 have B8 : Below w7.heap.size w7 w8 := hw8.drew
 have hsz := B8.size
 obtain ⟨Av1, cv1, rfl, _⟩ := own_form hv1
 simp only [List.set_cons_succ, List.set_cons_zero, List.drop_succ_cons, List.drop_zero]
 have l1' : (I.map bv).length = 1 * 32 := k32.out
 have bo := bv_one I
 go_upto_region 8 with (first
  | (at_builtin; refine wpList_appE Tryd.underlying23 infoHh zeroHh (by decide) hv1 hsz (I.map bv) 1 1 q1 l1' bo (by omega) (by omega) rfl (.tmp 46) (.tmp 48) rfl rfl rfl ?_; intro v4 w9 o4 g4 _; have B9 := own_app B8 hv1 g4 hsz; have a9 := a7.below B9; obtain ⟨A4, c4, rfl, hc4, _⟩ := own_form o4)
  | (refine wpList_storeS rfl 23 _ _ rfl rfl a9 (show 1 < 3 by decide) A4 (nt + 1) c4 rfl size_hs1 ?_))
 have S5 := a9.set 1 (.slice A4 (nt + 1) c4)
 have z9 := (z7.below B9).other ⟨H, 1, none⟩ (.slice A4 (nt + 1) c4) (by show H + 2 ≠ H; omega)
 have b9' := (B7.trans (B9.mono B7.size)).setCell (p := ⟨H, 1, none⟩) hHw (.slice A4 (nt + 1) c4)
 have own5 := own_fr o4 (Fr.setCell w9 ⟨H, 1, none⟩ (.slice A4 (nt + 1) c4)) (fun k hk e => by
  have := (World.ownsRow.lt o4 k hk).1
  simp only at e
  omega)
 obtain ⟨wX, hwX⟩ : ∃ wX, wX = w9.setCell ⟨H, 1, none⟩ (.slice A4 (nt + 1) c4) := ⟨_, rfl⟩
 rw [← hwX] at S5 z9 b9' own5 ⊢
 have aX : Av wX H 42 (wtc As A4 An ns cs (nt + 1) c4 nn cn) := S5
 have wone' := wtc_one As A4 An ns cs (nt + 1) c4 nn cn
 have l3' : (wtc As A4 An ns cs (nt + 1) c4 nn cn).length = 3 := rfl
 replace hwX := Lib.hid hwX
 clear S5 a9 o4 g4
 go_wp2_with (first
  | ((with_reducible refine wpList_loadF 42 aX ?_ _ 3 l3' Tryd.underlying42 ?_ ?_ ?_); rfl; rfl; kernel_rfl)
  | ((with_reducible refine wpList_storeFA 42 b9' z9 hH2 (wtc As A4 An ns cs (nt + 1) c4 nn cn) ?_ ?_ 3 l3' ?_ ?_ ?_ ?_); rfl; rfl; kernel_rfl; rfl; exact wone'; intro wY aY bY kY zY))
 refine bodyPost_ret (v := .tuple #[.agg (wtc As A4 An ns cs (nt + 1) c4 nn cn).toArray, .bool true]) ((results_cellU (C := wtc As A4 An ns cs (nt + 1) c4 nn cn) (by rfl) (by rfl) aY _ Tryd.underlying42 rfl 3 l3' (by kernel_rfl)).trans (by rfl)) (by rfl) ?_
 have own6 := own_fr own5 (S := fun k => k = H + 2) ⟨bY.os.trans b9'.os.symm, bY.tape.trans b9'.tape.symm, bY.output.trans b9'.output.symm, by rw [zY]; exact Nat.le_refl _, fun k _ hk => kY k hk⟩ (fun k hk e => by
  have := (World.ownsRow.lt own5 k hk).1
  omega)
 refine ⟨A4, c4, rfl, ⟨?_, ?_⟩, bY⟩
 ·have := own_rd own6
  rw [← hcl_one, ← hcl_append] at this
  exact this
 ·intro e he
  rcases List.mem_append.1 he with he | he
  ·exact rT.2 e he
  ·rw [List.mem_singleton.1 he]
   exact I32.out
theorem WNote (ver lock : Nat) (hv : ver < 4294967296) (hlk : lock < 4294967296) (l : List (TIn × Sl)) (m : List (TOut × Sl)) (A1 A2 : Option Addr) (n1 n2 c1 c2 : Nat) (hn1 : l.length = n1) (hn2 : m.length = n2) (S : List (List UInt8 × Sl)) (As At An : Option Addr) (ns cs nt ct nn cn : Nat) (hS : S.length = ns) (hns : ns ≤ 100000) (T : List (List UInt8)) (hT : T.length = nt) (hnt : nt ≤ 90000) (w : World) (ht : Tabs w) (h1 : RdIns w A1 l) (h2 : RdOuts w A2 m) (rS : RdBss w As S) (rT : RdHs w At T) :
  Calls Tryd.prog 20 #[.agg (wtc As At An ns cs nt ct nn cn).toArray, .agg #[.int .u32 (ver : Int), .slice A1 n1 c1, .slice A2 n2 c2, .int .u32 (lock : Int)]] w fun e w' => ∃ A' n' c', e = .returned (.tuple #[.agg (wtc As A' An ns cs n' c' nn cn).toArray, .bool (wNote (S.map (·.1)) T (txOf ver l m lock)).2]) ∧ (wNote (S.map (·.1)) T (txOf ver l m lock)).1.length = n' ∧ RdHs w' A' (wNote (S.map (·.1)) T (txOf ver l m lock)).1 ∧ Below w.heap.size w w' := by
 unfold wNote noteB
 have no : (Calls Tryd.prog 20 #[.agg (wtc As At An ns cs nt ct nn cn).toArray, .agg #[.int .u32 (ver : Int), .slice A1 n1 c1, .slice A2 n2 c2, .int .u32 (lock : Int)]] w fun e w' => e = .returned (.tuple #[.agg (wtc As At An ns cs nt ct nn cn).toArray, .bool false]) ∧ Below w.heap.size w w') → (Calls Tryd.prog 20 #[.agg (wtc As At An ns cs nt ct nn cn).toArray, .agg #[.int .u32 (ver : Int), .slice A1 n1 c1, .slice A2 n2 c2, .int .u32 (lock : Int)]] w fun e w' => ∃ A' n' c', e = .returned (.tuple #[.agg (wtc As A' An ns cs n' c' nn cn).toArray, .bool false]) ∧ T.length = n' ∧ RdHs w' A' T ∧ Below w.heap.size w w') := fun h => h.mono fun e w' ⟨h1, h2⟩ => ⟨At, nt, ct, h1, hT, rT.below h2, h2⟩
 cases hs : txSane (txOf ver l m lock) with
 | false =>
  simp only [Bool.false_and, Bool.false_eq_true, if_false]
  exact no (WNote_bad ver lock hv hlk l m A1 A2 n1 n2 c1 c2 hn1 hn2 S As At An ns cs nt ct nn cn hS hns T hT hnt hs w ht h1 h2 rS rT)
 | true =>
  cases htt : txT (txOf ver l m lock) (S.map (·.1)) T with
  | false =>
   simp only [Bool.and_false, Bool.false_and, Bool.false_eq_true, if_false]
   exact no (WNote_un ver lock hv hlk l m A1 A2 n1 n2 c1 c2 hn1 hn2 S As At An ns cs nt ct nn cn hS hns T hT hnt hs htt w ht h1 h2 rS rT)
  | true =>
   cases hco : T.contains (dblB (txB (txOf ver l m lock))) with
   | true =>
    simp only [Bool.not_true, Bool.and_false, Bool.false_and, Bool.false_eq_true, if_false]
    exact no (WNote_in ver lock hv hlk l m A1 A2 n1 n2 c1 c2 hn1 hn2 S As At An ns cs nt ct nn cn hS hns T hT hnt hs htt hco w ht h1 h2 rS rT)
   | false =>
    by_cases hfu : T.length < 4096
    ·have e : (true && true && !false && decide (T.length < 4096)) = true := by simp [hfu]
     rw [if_pos e]
     exact (WNote_ok ver lock hv hlk l m A1 A2 n1 n2 c1 c2 hn1 hn2 S As At An ns cs nt ct nn cn hS hns T hT hnt hs htt hco (by omega) w ht h1 h2 rS rT).mono fun e w' ⟨A', c', h1, h2, h3⟩ => ⟨A', nt + 1, c', h1, by simp [hT], h2, h3⟩
    ·have e : ¬ (true && true && !false && decide (T.length < 4096)) = true := by simp [hfu]
     rw [if_neg e]
     exact no (WNote_full ver lock hv hlk l m A1 A2 n1 n2 c1 c2 hn1 hn2 S As At An ns cs nt ct nn cn hS hns T hT hnt hs htt hco (by omega) w ht h1 h2 rS rT)
end Go.Proofs.YtobjgebojhjhnaaDoor
