import Derived.Test.YtobjgebojhjhnaaDoorQr18
import Derived.Test.YtobjgebojhjhnaaDoorJmp
namespace Go.Proofs.YtobjgebojhjhnaaDoor
open Go.RowKit
attribute [local go_sem high] slB_lh slB_l slB_h
def pJ0 (fl : List UInt8) (hs : List (List UInt8)) (tot : Nat) (Ah : Option Addr) (nh ch : Nat) (Af : Option Addr) (nf cf R G X B : Nat) (w0 : World) (ans : Option PRes) (m : Nat) (a : Act) (w : World) : Prop :=
 ∃ (d k h i : Nat) (v7 v8 : Value) (sk : List PFr) (l : List (Nat × List UInt8)), Slots a 114 [(0, .pointer (some ⟨R, 0, none⟩)), (2, .pointer (some ⟨G, 0, none⟩)), (5, .int .i64 (tot : Int)), (6, .pointer (some ⟨X, 0, none⟩)), (7, v7), (8, v8)] ∧ RdW tot Ah nh ch Af nf cf R G X B w0 w d k h i v7 v8 sk l ∧ (∀ f ∈ sk, f.ok) ∧ (∀ p ∈ l, p.2.length = 32) ∧
  h ≤ 12 ∧ i < pWd tot h ∧ d ≤ 8 * nf ∧ l.length ≤ k ∧ k ≤ nh ∧ sk.length ≤ d ∧ m = pPhi nf d sk ∧ pDown tot fl hs sk.reverse h i l d k = ans
def pJ1 (fl : List UInt8) (hs : List (List UInt8)) (tot : Nat) (Ah : Option Addr) (nh ch : Nat) (Af : Option Addr) (nf cf R G X B : Nat) (w0 : World) (ans : Option PRes) (m : Nat) (a : Act) (w : World) : Prop :=
 ∃ (d k : Nat) (h i : Int) (v7 v8 : Value) (sk : List PFr) (l : List (Nat × List UInt8)) (x : List UInt8) (Hh : Nat), Slots a 114 [(0, .pointer (some ⟨R, 0, none⟩)), (2, .pointer (some ⟨G, 0, none⟩)), (5, .int .i64 (tot : Int)), (6, .pointer (some ⟨X, 0, none⟩)), (7, v7), (8, v8), (11, .pointer (some ⟨Hh, 0, none⟩))] ∧ RdW tot Ah nh ch Af nf cf R G X B w0 w d k h i v7 v8 sk l ∧ (∀ f ∈ sk, f.ok) ∧ (∀ p ∈ l, p.2.length = 32) ∧
  Av w Hh 30 (x.map bv) ∧ B ≤ Hh ∧ Hh ≠ G ∧ x.length = 32 ∧ d ≤ 8 * nf ∧ l.length ≤ k ∧ k ≤ nh ∧ sk.length ≤ d ∧ m = pPhi nf d sk + 1 ∧ pUp tot fl hs sk.reverse x l d k = ans
theorem wpList_storeMF {P : Program} (ty : TypeId) {w : World} {b off : Nat} (vs : List Value) (hth : w.there b off vs.length) {ops : Array Oper} {rest : List Oper} {a : Act} {Q : Exit → Act → World → Prop} {d tp pos af} {x y : Operand}
  (hx : a.eval x = .pointer (some ⟨b, off, none⟩)) (hy : a.eval y = .agg vs.toArray) (hi : (P.info? ty).map (·.size) = some vs.length) (h1 : vs.all (·.oneCell') = true)
  (k : wpList P ops Q rest (a.put d undef) (w.setCells b off vs)) : wpList P ops Q (⟨d, .store ty x y, tp, pos, af, none⟩ :: rest) a w :=
 wpList_store_mid rfl ty x y rfl b off vs.toArray hx hy (by simpa using hth) (by simpa using hi) (by simpa using h1) (by simpa using k)
theorem wpList_bld {P : Program} {ty : TypeId} {parts : Array (Nat × Operand)} {ops : Array Oper} {rest : List Oper} {a : Act} {w : World} {Q : Exit → Act → World → Prop} {d tp pos af} (v : Value) (h : (execOp a.eval ⟨d, .build ty parts, tp, pos, af, none⟩).run P w = .ok (.value v) w) (k : wpList P ops Q rest (a.put d v) w) : wpList P ops Q (⟨d, .build ty parts, tp, pos, af, none⟩ :: rest) a w :=
 wpList_execW rfl h k
theorem len32 {α : Type} {l : List α} (h : l.length = 32) : ∃ v0 v1 v2 v3 v4 v5 v6 v7 v8 v9 v10 v11 v12 v13 v14 v15 v16 v17 v18 v19 v20 v21 v22 v23 v24 v25 v26 v27 v28 v29 v30 v31, l = [v0, v1, v2, v3, v4, v5, v6, v7, v8, v9, v10, v11, v12, v13, v14, v15, v16, v17, v18, v19, v20, v21, v22, v23, v24, v25, v26, v27, v28, v29, v30, v31] := by
 match l, h with
 | [v0, v1, v2, v3, v4, v5, v6, v7, v8, v9, v10, v11, v12, v13, v14, v15, v16, v17, v18, v19, v20, v21, v22, v23, v24, v25, v26, v27, v28, v29, v30, v31], _ => exact ⟨v0, v1, v2, v3, v4, v5, v6, v7, v8, v9, v10, v11, v12, v13, v14, v15, v16, v17, v18, v19, v20, v21, v22, v23, v24, v25, v26, v27, v28, v29, v30, v31, rfl⟩
theorem built_mt (i : Int) (x : List UInt8) (hx : x.length = 32) : Tryd.prog.built 61 [(0, .int .i64 i), (1, .agg (x.map bv).toArray)] = some ([Value.int .i64 i] ++ x.map bv).toArray := by
 obtain ⟨v0, v1, v2, v3, v4, v5, v6, v7, v8, v9, v10, v11, v12, v13, v14, v15, v16, v17, v18, v19, v20, v21, v22, v23, v24, v25, v26, v27, v28, v29, v30, v31, rfl⟩ := len32 hx
 kernel_rfl
theorem wpList_build_mt (i : Int) (x : List UInt8) (hx : x.length = 32) {ops : Array Oper} {rest : List Oper} {a : Act} {w : World} {Q : Exit → Act → World → Prop} {d tp pos af} {x0 x1 : Operand} (h0 : a.eval x0 = .int .i64 i) (h1 : a.eval x1 = .agg (x.map bv).toArray)
  (k : wpList Tryd.prog ops Q rest (a.put d (.agg ([Value.int .i64 i] ++ x.map bv).toArray)) w) : wpList Tryd.prog ops Q (⟨d, .build 61 #[(0, x0), (1, x1)], tp, pos, af, none⟩ :: rest) a w := by
 refine wpList_execW rfl ?_ k
 have := run_build (P := Tryd.prog) w 61 #[(0, .int .i64 i), (1, .agg (x.map bv).toArray)] _ (built_mt i x hx)
 unfold execOp
 simp only [Sem.run_bind, List.map_toArray, List.map_cons, List.map_nil, h0, h1, this, Result.andThen_ok]
 rfl
theorem pWd_le (n h : Nat) (h0 : 0 < n) : pWd n h ≤ n := by
 induction h with
 | zero => rw [pWd_zero]; exact Nat.le_refl _
 | succ h ih => rw [pWd_succ]; omega
theorem then_goto {K : Act → World → Prop} {Q : Exit → Act → World → Prop} {a : Act} {w : World} {l : Nat} (h : Q (.goto l) a w) : Exit.then K Q (.goto l) a w := h
theorem jumps_ret {J : Nat → Act → World → Prop} {Q : Exit → Act → World → Prop} {a : Act} {w : World} (h : Q .ret a w) : jumpsTo J Q .ret a w := h
theorem jumps_goto {J : Nat → Act → World → Prop} {Q : Exit → Act → World → Prop} {a : Act} {w : World} {l : Nat} (h : J l a w) : jumpsTo J Q (.goto l) a w := h
theorem Fr.rdE {S : Nat → Prop} {w w' : World} {A : Option Addr} {xs : List Value} (h : Fr S w w') (hr : Rd w A xs) (hA : xs ≠ [] → ∀ a, A = some a → ¬ S a.block) : Rd w' A xs := by
 by_cases e : xs = []
 ·exact .inl e
 ·exact h.rd hr (hA e)
theorem snoc_cases {α : Type} (l : List α) : l = [] ∨ ∃ s f, l = s ++ [f] := by
 rcases List.eq_nil_or_concat l with h | ⟨s, f, h⟩
 ·exact .inl h
 ·exact .inr ⟨s, f, by rw [h, List.concat_eq_append]⟩
theorem Fr.ofStore {B g : Nat} {w w2 : World} (b : Below B w w2) (k : ∀ k, k ≠ g → w2.heap[k]? = w.heap[k]?) (z : w2.heap.size = w.heap.size) : Fr (fun j => j = g) w w2 := ⟨b.os, b.tape, b.output, by rw [z]; exact Nat.le_refl _, fun j _ hj => k j hj⟩
set_option maxRecDepth 100000 in
set_option maxHeartbeats 16000000 in
theorem PRead (fl : List UInt8) (hs : List (List UInt8)) (h32 : All32 hs) (tot : Nat) (Ah : Option Addr) (nh ch : Nat) (Af : Option Addr) (nf cf R : Nat) (hnh : hs.length = nh) (hnf : fl.length = nf) (ht0 : 0 < tot) (ht : tot ≤ 4096) (hnf2 : nf ≤ 10000) (hnh2 : nh ≤ 10000) (w : World)
  (hA : Av w R 115 (rdc tot Ah nh ch Af nf cf 0 0)) (hrh : Rd w Ah (hcl hs)) (hrf : Rd w Af (fl.map bv)) (hAh : hcl hs ≠ [] → ∀ a, Ah = some a → a.block ≠ R) (hAf : fl.map bv ≠ [] → ∀ a, Af = some a → a.block ≠ R) (hT : ∀ w', Fr (fun j => j = R) w w' → Tabs w') :
  Calls Tryd.prog 38 #[.pointer (some ⟨R, 0, none⟩)] w (RdPost tot Ah nh ch Af nf cf R w (pRd tot fl hs (pHt tot) 0 0 0)) := by
 obtain ⟨ans, hans⟩ : ∃ ans, ans = pRd tot fl hs (pHt tot) 0 0 0 := ⟨_, rfl⟩
 rw [← hans]
 have hz := zeros_32
 rw [show List.replicate 32 (0 : UInt8) = zs32 from rfl] at hz
 obtain ⟨W, hW⟩ : ∃ W, W = w.alloc (.cells (zs32.map bv).toArray 30) := ⟨_, rfl⟩
 obtain ⟨G, hG⟩ : ∃ G, G = w.heap.size := ⟨_, rfl⟩
 have bW : Below w.heap.size w W := by rw [hW]; exact (Below.refl _ _).alloc (Nat.le_refl _) _
 have aG : Av W G 30 (zs32.map bv) := by rw [hW, hG]; exact Av.new _ _ _
 have aR := hA.below bW
 have c0 := aR.cell 0 _ rfl
 have HHt : Calls Tryd.prog 63 #[.int .i64 (tot : Int)] W fun e w' => e = .returned (.int .i64 ((pHt tot : Nat) : Int)) ∧ w' = W := by
  obtain ⟨q1, q2, q3⟩ := pHt_spec tot ht
  exact Height tot (pHt tot) q1 (fun j hj => by rw [pWd_of tot j ht (by omega)]; have := q2 j hj; omega) (by rw [pWd_of tot _ ht q1]; omega) W
 obtain ⟨H0, hH0⟩ : ∃ H0, H0 = pHt tot := ⟨_, rfl⟩
 rw [← hH0] at HHt hans
 replace hW := Lib.hid hW
 replace hG := Lib.hid hG
 replace hH0 := Lib.hid hH0
 replace hans := Lib.hid hans
 replace HHt := Lib.hid HHt
 replace hnh := Lib.hid hnh
 replace hnf := Lib.hid hnf
 replace hT := Lib.hid hT
 replace hAh := Lib.hid hAh
 replace hAf := Lib.hid hAf
 go_enter Tryd.func38, Tryd.ntmps38
 go_upto_region 1 with fail
 rw [← hW.out, ← hG.out]
 obtain ⟨B, hB⟩ : ∃ B, B = w.heap.size := ⟨_, rfl⟩
 obtain ⟨X, hX⟩ : ∃ X, X = W.heap.size := ⟨_, rfl⟩
 have hX0 : Hid (w.heap.size ≤ X) := Lib.hid (by rw [hX]; exact bW.size)
 replace hX := Lib.hid hX
 replace hB := Lib.hid hB
 refine wp_scope_two 0 1 (pJ0 fl hs tot Ah nh ch Af nf cf R G X B w ans) (pJ1 fl hs tot Ah nh ch Af nf cf R G X B w ans) rfl rfl ?pass1 ?pass0 ?first
 case pass1 =>
  have hA0 : R < w.heap.size := hA.lt
  clear HHt aG aR c0 hans hA
  intro m a w1 hJ
  obtain ⟨d, k, h, i, v7, v8, sk, l, x, Hh, hS, hW1, ok, okl, aH, bH, nHG, x32, hd, hlk, hk, hsd, rfl, hun⟩ := hJ
  obtain ⟨fr, aR1, aG1, aX1, o7, o8⟩ := hW1
  obtain ⟨f, ⟨e0, e2, e5, e6, e7, e8, e11, -⟩, rfl⟩ := hS.frame
  dsimp only at e0 e2 e5 e6 e7 e8 e11
  rw [show (List.range 114).map f = [f 0, f 1, f 2, f 3, f 4, f 5, f 6, f 7, f 8, f 9, f 10, f 11, f 12, f 13, f 14, f 15, f 16, f 17, f 18, f 19, f 20, f 21, f 22, f 23, f 24, f 25, f 26, f 27, f 28, f 29, f 30, f 31, f 32, f 33, f 34, f 35, f 36, f 37, f 38, f 39, f 40, f 41, f 42, f 43, f 44, f 45, f 46, f 47, f 48, f 49, f 50, f 51, f 52, f 53, f 54, f 55, f 56, f 57, f 58, f 59, f 60, f 61, f 62, f 63, f 64, f 65, f 66, f 67, f 68, f 69, f 70, f 71, f 72, f 73, f 74, f 75, f 76, f 77, f 78, f 79, f 80, f 81, f 82, f 83, f 84, f 85, f 86, f 87, f 88, f 89, f 90, f 91, f 92, f 93, f 94, f 95, f 96, f 97, f 98, f 99, f 100, f 101, f 102, f 103, f 104, f 105, f 106, f 107, f 108, f 109, f 110, f 111, f 112, f 113] from rfl, e0, e2, e5, e6, e7, e8, e11]
  clear e0 e2 e5 e6 e7 e8 e11
  generalize f 1 = u1
  generalize f 3 = u3
  generalize f 4 = u4
  generalize f 9 = u9
  generalize f 10 = u10
  generalize f 12 = u12
  generalize f 13 = u13
  generalize f 14 = u14
  generalize f 15 = u15
  generalize f 16 = u16
  generalize f 17 = u17
  generalize f 18 = u18
  generalize f 19 = u19
  generalize f 20 = u20
  generalize f 21 = u21
  generalize f 22 = u22
  generalize f 23 = u23
  generalize f 24 = u24
  generalize f 25 = u25
  generalize f 26 = u26
  generalize f 27 = u27
  generalize f 28 = u28
  generalize f 29 = u29
  generalize f 30 = u30
  generalize f 31 = u31
  generalize f 32 = u32
  generalize f 33 = u33
  generalize f 34 = u34
  generalize f 35 = u35
  generalize f 36 = u36
  generalize f 37 = u37
  generalize f 38 = u38
  generalize f 39 = u39
  generalize f 40 = u40
  generalize f 41 = u41
  generalize f 42 = u42
  generalize f 43 = u43
  generalize f 44 = u44
  generalize f 45 = u45
  generalize f 46 = u46
  generalize f 47 = u47
  generalize f 48 = u48
  generalize f 49 = u49
  generalize f 50 = u50
  generalize f 51 = u51
  generalize f 52 = u52
  generalize f 53 = u53
  generalize f 54 = u54
  generalize f 55 = u55
  generalize f 56 = u56
  generalize f 57 = u57
  generalize f 58 = u58
  generalize f 59 = u59
  generalize f 60 = u60
  generalize f 61 = u61
  generalize f 62 = u62
  generalize f 63 = u63
  generalize f 64 = u64
  generalize f 65 = u65
  generalize f 66 = u66
  generalize f 67 = u67
  generalize f 68 = u68
  generalize f 69 = u69
  generalize f 70 = u70
  generalize f 71 = u71
  generalize f 72 = u72
  generalize f 73 = u73
  generalize f 74 = u74
  generalize f 75 = u75
  generalize f 76 = u76
  generalize f 77 = u77
  generalize f 78 = u78
  generalize f 79 = u79
  generalize f 80 = u80
  generalize f 81 = u81
  generalize f 82 = u82
  generalize f 83 = u83
  generalize f 84 = u84
  generalize f 85 = u85
  generalize f 86 = u86
  generalize f 87 = u87
  generalize f 88 = u88
  generalize f 89 = u89
  generalize f 90 = u90
  generalize f 91 = u91
  generalize f 92 = u92
  generalize f 93 = u93
  generalize f 94 = u94
  generalize f 95 = u95
  generalize f 96 = u96
  generalize f 97 = u97
  generalize f 98 = u98
  generalize f 99 = u99
  generalize f 100 = u100
  generalize f 101 = u101
  generalize f 102 = u102
  generalize f 103 = u103
  generalize f 104 = u104
  generalize f 105 = u105
  generalize f 106 = u106
  generalize f 107 = u107
  generalize f 108 = u108
  generalize f 109 = u109
  generalize f 110 = u110
  generalize f 111 = u111
  generalize f 112 = u112
  generalize f 113 = u113
  clear hS f
  have hx32 : (x.map bv).length = 32 := by rw [List.length_map, x32]
  have hxone : (x.map bv).all (·.oneCell') = true := List.all_eq_true.2 (bv_one x)
  have hGw : w.heap.size ≤ G := by rw [hG.out]; exact Nat.le_refl _
  obtain ⟨A8, c8, rfl, hc8, _⟩ := own_form o8
  replace hx32 := Lib.hid hx32
  replace hxone := Lib.hid hxone
  replace x32 := Lib.hid x32
  replace hun := Lib.hid hun
  rcases snoc_cases sk with rfl | ⟨sk, f, rfl⟩
  ·obtain ⟨A7, c7, rfl, hc7, _⟩ := own_form o7
   rw [List.length_nil]
   have r8 := own_rd o8
   obtain ⟨nl, hnl⟩ : ∃ nl, nl = l.length := ⟨_, rfl⟩
   rw [← hnl] at hc8 ⊢
   replace hnl := Lib.hid hnl
   go_wp2_with (first
    | ((with_reducible refine wpList_loadF 30 aH ?_ _ 32 hx32.out Tryd.underlying30 ?_ ?_ ?_); rfl; rfl; kernel_rfl)
    | ((with_reducible refine wpList_storeFA 30 (Below.refl G w1) aG1 (Nat.le_refl _) (x.map bv) ?_ ?_ 32 hx32.out ?_ ?_ ?_ ?_); rfl; rfl; kernel_rfl; rfl; exact hxone.out; intro w2 a2 b2 k2 z2))
   refine jumps_ret ?_
   have f2 := Fr.ofStore b2 k2 z2
   refine bodyPost_ret (v := .tuple #[.agg (hcs x), .slice A8 nl c8, .bool true]) ((results_cellAv2 (C := x.map bv) (by rfl) (by rfl) a2 _ Tryd.underlying30 rfl 32 hx32.out (by kernel_rfl)).trans (by rfl)) (by rfl) ?_
   refine ⟨Fr.transNew fr f2 (fun j h => .inr (by rw [h]; exact hGw)), ?_⟩
   rw [← hun.out, List.reverse_nil, pUp_nil]
   refine ⟨A8, c8, by rw [hnl.out], by rw [← hnl.out]; exact hc8, (fun a e => by have := (World.ownsRow.lt o8 a.block (by rw [e]; rfl)).1; rw [hB.out] at this; exact this), f2.rd r8 (fun a e => ?_), f2.av aR1 (fun h => ?_)⟩
   ·intro h
    exact own_ne o8 aG1 (by decide) (by rw [← h]; subst e; rfl)
   ·exact Av.ne aR1 aG1 (by decide) h
  ·have hlen : (sk ++ [f]).length = sk.length + 1 := by rw [List.length_append]; rfl
   rw [hlen] at o7
   obtain ⟨g, c7, rest, rfl, hBg, hc7, hc7m, av7, hl7⟩ := own_open o7 (by omega)
   obtain ⟨fh, fi, fa⟩ := f
   have okf := ok _ (List.mem_append_right _ (List.mem_singleton.2 rfl))
   have oks : ∀ f ∈ sk, f.ok := fun f h => ok f (List.mem_append_left _ h)
   have hskl := skc_len oks
   have hav7 : Av w1 g 164 (skc sk ++ (opc ⟨fh, fi, fa⟩ ++ rest)) := by rw [← List.append_assoc, skc_snoc]; exact av7
   obtain ⟨n, hn⟩ : ∃ n, n = sk.length := ⟨_, rfl⟩
   rw [← hn] at hskl hc7 o7 ⊢
   have cat : ∀ j u, (opc ⟨fh, fi, fa⟩)[j]? = some u → w1.cell? ⟨g, n * 35 + j, none⟩ = some u := fun j u hj => by
    have hjl : j < (opc ⟨fh, fi, fa⟩).length := (List.getElem?_eq_some_iff.1 hj).1
    refine hav7.cell (n * 35 + j) u ?_
    rw [List.getElem?_append_right (by omega), hskl, Nat.add_sub_cancel_left, List.getElem?_append_left hjl]
    exact hj
   have n0 : ((n : Int) + 1 == 0) = false := by simp; omega
   have nb : n ≤ 80000 := by rw [hlen] at hsd; omega
   have n1 : (n : Int) ≤ (c7 : Int) := by omega
   have hRw : R < w.heap.size := hA0
   have hgw : w.heap.size ≤ g := by rw [← hB.out]; exact hBg
   have hHw : w.heap.size ≤ Hh := by rw [← hB.out]; exact bH
   have hgH : g ≠ Hh := Av.ne av7 aH (by decide)
   have hgG : g ≠ G := Av.ne av7 aG1 (by decide)
   have hgR : g ≠ R := Av.ne av7 aR1 (by decide)
   have hgX : g ≠ X := Av.ne av7 aX1 (by decide)
   have hHR : Hh ≠ R := Av.ne aH aR1 (by decide)
   have hHX : Hh ≠ X := Av.ne aH aX1 (by decide)
   have hGR : G ≠ R := Av.ne aG1 aR1 (by decide)
   have hGX : G ≠ X := Av.ne aG1 aX1 (by decide)
   have hRX : R ≠ X := Av.ne aR1 aX1 (by decide)
   have o8H := own_ne o8 aH (by decide)
   have o8g := own_ne o8 av7 (by decide)
   have o8G := own_ne o8 aG1 (by decide)
   have rx : w1.rangeAt Hh 0 (x.map bv) := fun j u hj => by rw [Nat.zero_add]; exact aH.cell j u hj
   rw [List.reverse_append] at hun
   change Hid (pUp tot fl hs (⟨fh, fi, fa⟩ :: sk.reverse) x l d k = ans) at hun
   have hsk2 : sk.length ≤ d := by rw [hlen] at hsd; omega
   have pop : ∀ (w' : World) (rest' : List Value), Av w' g 164 (skc sk ++ rest') → (skc sk ++ rest').length = c7 * 35 → w'.ownsRow B 164 35 (.slice (some ⟨g, 0, none⟩) n c7) sk.length (skc sk) := fun w' rest' h1 h2 => by
    rw [← hn]
    exact own_close hBg (by omega) hc7m h1 h2 hskl
   have hl7' : (skc sk ++ (opc ⟨fh, fi, fa⟩ ++ rest)).length = c7 * 35 := by rw [← hl7, ← skc_snoc]; simp
   replace hn := Lib.hid hn
   replace hlen := Lib.hid hlen
   replace pop := Lib.hid pop
   replace o8H := Lib.hid o8H
   replace o8g := Lib.hid o8g
   replace o8G := Lib.hid o8G
   replace rx := Lib.hid rx
   replace hl7 := Lib.hid hl7
   replace hl7' := Lib.hid hl7'
   replace hskl := Lib.hid hskl
   clear o7 av7
   cases fa with
   | some a =>
    have a32 : a.length = 32 := okf.1 a rfl
    have k2 := cat 2 (.bool true) (by simp [opc])
    have ra : w1.rangeAt g (n * 35 + 3) (a.map bv) := Av.rangeAt (pre := skc sk ++ [.int .i64 (fh : Int), .int .i64 (fi : Int), .bool true]) (rest := rest) (by simpa [opc] using hav7) _ (by simp [hskl.out])
    have ha32 : (a.map bv).length = 32 := by rw [List.length_map, a32]
    have EQ := fun p q w => eqlHw a x a32 x32.out p q w
    obtain ⟨b, hb⟩ : ∃ b, b = (a == x) := ⟨_, rfl⟩
    rw [← hb] at EQ
    replace hb := Lib.hid hb
    replace cat := Lib.hid cat
    replace ra := Lib.hid ra
    replace a32 := Lib.hid a32
    replace ha32 := Lib.hid ha32
    replace EQ := Lib.hid EQ
    go_upto_region 20 with fail
    clear k2
    refine wp_region_rel [] Ext (by kernel_rfl) (by kernel_rfl) (by kernel_rfl) Ext.refl Ext.trans (by intro p hp; cases hp) ?_
    refine ZM ?_
    refine ZP (fun w _ => by go_simp; first | done | rfl) ?_
    refine ZP (fun w _ => by go_simp; first | done | rfl) ?_
    refine ZP (c := .agg (hcs a)) (fun w hw => exec_load_mid _ _ rfl g (n * 35 + 3) rfl (a.map bv) _ (fun j u hj => (World.cell?_of_block (a := ⟨g, n * 35 + 3 + j, none⟩) (hw.drew.block g hav7.lt)).trans (ra.out j u hj)) Tryd.underlying30 rfl (by rw [ha32.out]; kernel_rfl)) ?_
    refine ZP (c := .agg (hcs x)) (fun w hw => exec_loadAv (aH.below hw.drew) _ _ rfl rfl _ 32 hx32.out Tryd.underlying30 rfl (by kernel_rfl)) ?_
    refine relBin Ext.refl rfl rfl rfl rfl _ _ _ _ _ rfl (by conv => lhs; whnf) (by conv => lhs; whnf) (c := .bool b) (fun w => EQ.out _ _ w) (by simp only [Zs]; rfl) ?_
    refine relEnd fun w2 hw2 => fill_end ?_
    have b2 := hw2.drew
    have aR2 := aR1.below b2
    have aG2 := aG1.below b2
    have aX2 := aX1.below b2
    have aH2 := aH.below b2
    have av2 := hav7.below b2
    have o82 := own_below o8 b2
    have fr2 := fr.trans (Below.fr b2)
    replace ra := Lib.hid (fun j u hj => (World.cell?_of_block (a := ⟨g, n * 35 + 3 + j, none⟩) (b2.block g hav7.lt)).trans (ra.out j u hj))
    clear o8 hav7 aH aR1 aG1 aX1 rx cat b2
    cases b
    rotate_left
    ·obtain rfl : a = x := by have := hb.out; simpa using this.symm
     have hzone : (zs32.map bv).all (·.oneCell') = true := rfl
     replace hzone := Lib.hid hzone
     go_wp2_with (first
      | ((with_reducible refine wpList_build (.agg (zs32.map bv).toArray) ?_ ?_); (go_simp; first | done | rfl))
      | ((with_reducible refine wpList_storeFA 30 (Below.refl G w2) aG2 (Nat.le_refl _) (zs32.map bv) ?_ ?_ 32 rfl ?_ ?_ ?_ ?_); rfl; rfl; kernel_rfl; rfl; exact hzone.out; intro w3 a3 b3 k3 z3))
     refine jumps_ret ?_
     have f3 := Fr.ofStore b3 k3 z3
     refine bodyPost_ret (v := .tuple #[.agg (hcs zs32), .slice none 0 0, .bool false]) ((results_cellAv2 (C := zs32.map bv) (by rfl) (by rfl) a3 _ Tryd.underlying30 rfl 32 rfl (by kernel_rfl)).trans (by rfl)) (by rfl) ?_
     refine ⟨Fr.transNew fr2 f3 (fun j h => .inr (by rw [h]; exact hGw)), ?_⟩
     rw [← hun.out, pUp_alike]
     exact ⟨rfl, d, k, f3.av aR2 (Ne.symm hGR)⟩
    ·have hax : a ≠ x := by have := hb.out; simpa using this.symm
     have hp32 := pairB_length a x
     have HPr := fun w' t => Pair a x a32.out x32.out w' t
     have hun2 : pUp tot fl hs sk.reverse (pairB a x) l d k = ans := by rw [← pUp_known hax]; exact hun.out
     obtain ⟨y, hy⟩ : ∃ y, y = pairB a x := ⟨_, rfl⟩
     rw [← hy] at hp32 HPr hun2
     have hy32 : (y.map bv).length = 32 := by rw [List.length_map, hp32]
     have hyone : (y.map bv).all (·.oneCell') = true := List.all_eq_true.2 (bv_one y)
     clear hun
     replace hun2 := Lib.hid hun2
     replace hax := Lib.hid hax
     replace hy := Lib.hid hy
     replace hy32 := Lib.hid hy32
     replace hyone := Lib.hid hyone
     replace hp32 := Lib.hid hp32
     replace HPr := Lib.hid HPr
     go_upto_region 22 with fail
     refine wp_region_relT 6 [] Ext (by kernel_rfl) (by kernel_rfl) (by kernel_rfl) (by kernel_rfl) (by kernel_rfl) Ext.refl Ext.trans (by intro p hp; cases hp) ?_
     refine ZM ?_
     refine ZP (fun w _ => by go_simp; first | done | rfl) ?_
     refine ZP (fun w _ => by go_simp; first | done | rfl) ?_
     refine ZP (c := .agg (hcs a)) (fun w hw => exec_load_mid _ _ rfl g (n * 35 + 3) rfl (a.map bv) _ (fun j u hj => (World.cell?_of_block (a := ⟨g, n * 35 + 3 + j, none⟩) (hw.drew.block g av2.lt)).trans (ra.out j u hj)) Tryd.underlying30 rfl (by rw [ha32.out]; kernel_rfl)) ?_
     refine ZP (c := .agg (hcs x)) (fun w hw => exec_loadAv (aH2.below hw.drew) _ _ rfl rfl _ 32 hx32.out Tryd.underlying30 rfl (by kernel_rfl)) ?_
     refine ZC (c := .agg (hcs y)) 67 #[.agg (hcs a), .agg (hcs x)] (fun w hw => (HPr.out w (hT.out w (fr2.trans (Below.fr hw.drew)))).mono (by rintro e w' ⟨rfl, hb⟩; exact ⟨rfl, hb⟩)) ?_
     refine relEnd fun w3 hw3 => fill_end ?_
     simp only [List.drop_succ_cons, List.drop_zero]
     have b3 := hw3.drew
     have aR3 := aR2.below b3
     have aG3 := aG2.below b3
     have aX3 := aX2.below b3
     have aH3 := aH2.below b3
     have av3 := av2.below b3
     have o83 := own_below o82 b3
     have fr3 := fr2.trans (Below.fr b3)
     clear aR2 aG2 aX2 av2 o82 fr2 aH2 hw3 b3 ra
     go_wp2_with ((with_reducible refine wpList_storeFA 30 (Below.refl Hh w3) aH3 (Nat.le_refl _) (y.map bv) ?_ ?_ 32 hy32.out ?_ ?_ ?_ ?_); rfl; rfl; kernel_rfl; exact hx32.out; exact hyone.out; intro w4 aH4 b4 k4 z4)
     have f4 := Fr.ofStore b4 k4 z4
     go_step3
     refine jumps_goto ?_
     refine ⟨pPhi nf d sk + 1, ?_, .inr ⟨rfl, d, k, h, i, .slice (some ⟨g, 0, none⟩) n c7, .slice A8 l.length c8, sk, l, y, Hh, ⟨rfl, rfl, rfl, rfl, rfl, rfl, rfl, rfl, rfl, trivial⟩,
      ⟨Fr.transNew fr3 f4 (fun j h => .inr (by rw [h]; exact hHw)), f4.av aR3 (Ne.symm hHR), f4.av aG3 (Ne.symm nHG), f4.av aX3 (Ne.symm hHX), pop.out _ _ (f4.av av3 hgH) hl7'.out, own_fr o83 f4 (fun k e h => o8H.out (by rw [e, h]))⟩,
      oks, okl, aH4, bH, nHG, hp32.out, hd, hlk, hk, hsk2, rfl, hun2.out⟩⟩
     simp [pPhi]
   | none =>
    obtain ⟨h', rfl⟩ : ∃ h', fh = h' + 1 := ⟨fh - 1, by have := okf.2.1; dsimp only at this; omega⟩
    have hh' : h' + 1 ≤ 12 := okf.2.2.1
    have hfi : fi ≤ 4096 := okf.2.2.2
    have k2 := cat 2 (.bool false) (by simp [opc])
    have rn : w1.rangeAt g (n * 35) (pnc ((h' : Int) + 1) (fi : Int)) := Av.rangeAt (pre := skc sk) (rest := [.bool false] ++ (zs32.map bv ++ rest)) (by simpa [opc, pnc] using hav7) _ hskl.out
    have HRt := fun w' => PRight tot h' fi ht (by omega) (by omega) w'
    obtain ⟨b, hb⟩ : ∃ b, b = decide (2 * fi + 1 < pWd tot h') := ⟨_, rfl⟩
    rw [← hb] at HRt
    replace hb := Lib.hid hb
    replace HRt := Lib.hid HRt
    replace cat := Lib.hid cat
    go_upto_region 24 with (first
     | ((with_reducible refine wpList_loadMF 151 (pnc ((h' : Int) + 1) (fi : Int)) rn ?_ _ Tryd.underlying151 ?_ ?_ ?_); rfl; rfl; kernel_rfl)
     | (go_at_call 68; refine (HRt.out w1).mono ?_; rintro e w2 ⟨rfl, b2⟩)
     | ((with_reducible refine wpList_storeF 151 ((Below.refl w2.heap.size w2).alloc (Nat.le_refl _) _) (heap_alloc_new _ _) (Nat.le_refl _) (pnc (h' : Int) (2 * (fi : Int) + 1)) ?_ ?_ 2 rfl ?_ ?_ ?_ ?_); rfl; rfl; kernel_rfl; rfl; rfl; intro w3 aY b3 k3 z3; clear k3; replace z3 := Lib.hid z3))
    obtain ⟨Y, hY⟩ : ∃ Y, Y = w2.heap.size := ⟨_, rfl⟩
    rw [← hY] at aY ⊢
    have b23 := b2.trans (b3.mono b2.size)
    have hYw : w1.heap.size ≤ Y := by rw [hY]; exact b2.size
    replace hY := Lib.hid hY
    have aR3 := aR1.below b23
    have aG3 := aG1.below b23
    have aX3 := aX1.below b23
    have aH3 := aH.below b23
    have av3 := hav7.below b23
    have o83 := own_below o8 b23
    have fr3 := fr.trans (Below.fr b23)
    have hgY : g ≠ Y := by have := hav7.lt; omega
    have hHY : Hh ≠ Y := by have := aH.lt; omega
    have hXY : X ≠ Y := by have := aX1.lt; omega
    clear o8 hav7 aH aR1 aG1 aX1 rx cat b23 b2 b3 rn k2 fr
    cases b
    ·have hnw : ¬ 2 * fi + 1 < pWd tot h' := by have := hb.out; simpa using this.symm
     have hp32 := pairB_length x x
     have HPr := fun w' t => Pair x x x32.out x32.out w' t
     have hun2 : pUp tot fl hs sk.reverse (pairB x x) l d k = ans := by rw [← pUp_one (h := h' + 1) (i := fi) hnw]; exact hun.out
     obtain ⟨y, hy⟩ : ∃ y, y = pairB x x := ⟨_, rfl⟩
     rw [← hy] at hp32 HPr hun2
     have hy32 : (y.map bv).length = 32 := by rw [List.length_map, hp32]
     have hyone : (y.map bv).all (·.oneCell') = true := List.all_eq_true.2 (bv_one y)
     clear hun hnw
     replace hun2 := Lib.hid hun2
     replace hy := Lib.hid hy
     replace hy32 := Lib.hid hy32
     replace hyone := Lib.hid hyone
     replace hp32 := Lib.hid hp32
     have HP2 := Lib.hid (HPr w3 (hT.out w3 fr3))
     clear HPr
     go_wp2_with (first
      | ((with_reducible refine wpList_loadF 30 aH3 ?_ _ 32 hx32.out Tryd.underlying30 ?_ ?_ ?_); rfl; rfl; kernel_rfl)
      | (go_at_call 67; refine (HP2.out).mono ?_; rintro e w4 ⟨rfl, b4⟩)
      | ((with_reducible refine wpList_storeFA 30 (Below.refl Hh w4) (aH3.below b4) (Nat.le_refl _) (y.map bv) ?_ ?_ 32 hy32.out ?_ ?_ ?_ ?_); rfl; rfl; kernel_rfl; exact hx32.out; exact hyone.out; intro w5 aH5 b5 k5 z5))
     have f5 := Fr.ofStore b5 k5 z5
     go_step3
     refine jumps_goto ?_
     refine ⟨pPhi nf d sk + 1, ?_, .inr ⟨rfl, d, k, h, i, .slice (some ⟨g, 0, none⟩) n c7, .slice A8 l.length c8, sk, l, y, Hh, ⟨rfl, rfl, rfl, rfl, rfl, rfl, rfl, rfl, rfl, trivial⟩,
      ⟨Fr.transNew (fr3.trans (Below.fr b4)) f5 (fun j h => .inr (by rw [h]; exact hHw)), f5.av (aR3.below b4) (Ne.symm hHR), f5.av (aG3.below b4) (Ne.symm nHG), f5.av (aX3.below b4) (Ne.symm hHX), pop.out _ _ (f5.av (av3.below b4) hgH) hl7'.out, own_fr (own_below o83 b4) f5 (fun k e h => o8H.out (by rw [e, h]))⟩,
      oks, okl, aH5, bH, nHG, hp32.out, hd, hlk, hk, hsk2, rfl, hun2.out⟩⟩
     simp [pPhi]
    ·have hnw : 2 * fi + 1 < pWd tot h' := by have := hb.out; simpa using this.symm
     have hun2 : pDown tot fl hs (⟨h' + 1, fi, some x⟩ :: sk.reverse) h' (2 * fi + 1) l d k = ans := (pUp_right (h := h' + 1) (i := fi) hnw).symm.trans hun.out
     replace hun2 := Lib.hid hun2
     have hpre : skc sk ++ [.int .i64 (((h' + 1 : Nat) : Int)), .int .i64 (fi : Int), .bool false] ++ zs32.map bv ++ rest = skc sk ++ (opc ⟨h' + 1, fi, none⟩ ++ rest) := by simp [opc]
     have hprel : (skc sk ++ [Value.int .i64 (((h' + 1 : Nat) : Int)), .int .i64 (fi : Int), .bool false]).length = n * 35 + 3 := by simp [hskl.out]
     have av3' : Av w3 g 164 (skc sk ++ [.int .i64 (((h' + 1 : Nat) : Int)), .int .i64 (fi : Int), .bool false] ++ zs32.map bv ++ rest) := by rw [hpre]; exact av3
     have rgz := Av.rangeAt av3' (n * 35 + 3) hprel
     have hth : w3.there g (n * 35 + 3) (x.map bv).length := fun j hj => ⟨by
      obtain ⟨u, hu⟩ : ∃ u, (zs32.map bv)[j]? = some u := ⟨_, List.getElem?_eq_getElem (by rw [List.length_map, zs32_len]; rwa [hx32.out] at hj)⟩
      rw [rgz j u hu]; rfl, frozen_of_row w3 g (n * 35 + 3 + j) _ 164 av3⟩
     have av4 := Av.setCells (x.map bv) _ _ rest (n * 35 + 3) w3 av3' hprel (by rw [hx32.out]; rfl)
     have f4 : Fr (fun j => j = g) w3 (w3.setCells g (n * 35 + 3) (x.map bv)) := ⟨(below_setCells (x.map bv) w3 g (n * 35 + 3) (Below.refl g w3) (Nat.le_refl _)).os, (below_setCells (x.map bv) w3 g (n * 35 + 3) (Below.refl g w3) (Nat.le_refl _)).tape, (below_setCells (x.map bv) w3 g (n * 35 + 3) (Below.refl g w3) (Nat.le_refl _)).output, (below_setCells (x.map bv) w3 g (n * 35 + 3) (Below.refl g w3) (Nat.le_refl _)).size, fun j _ hj => heap_setCells (x.map bv) w3 g (n * 35 + 3) j hj⟩
     have aH4 := f4.av aH3 (Ne.symm hgH)
     have hth2 := Lib.hid hth
     clear hth rgz av3' hpre hun
     obtain ⟨w4, hw4⟩ : ∃ w4, w4 = w3.setCells g (n * 35 + 3) (x.map bv) := ⟨_, rfl⟩
     rw [← hw4] at av4 f4 aH4
     have hset : (skc sk ++ [Value.int .i64 (((h' + 1 : Nat) : Int)), .int .i64 (fi : Int), .bool false] ++ x.map bv ++ rest).set (n * 35 + 2) (.bool true) = skc (sk ++ [⟨h' + 1, fi, some x⟩]) ++ rest := by
      rw [List.append_assoc, List.append_assoc, List.set_append_right _ _ (by rw [hskl.out]; omega), hskl.out, Nat.add_sub_cancel_left, ← skc_snoc, List.append_assoc]
      simp [opc]
     have c4 : w4.cell? ⟨g, n * 35 + 2, none⟩ = some (.bool false) := av4.cell (n * 35 + 2) _ (by
      rw [List.append_assoc, List.append_assoc, List.getElem?_append_right (by rw [hskl.out]; omega), hskl.out, Nat.add_sub_cancel_left]
      rfl)
     have z4 : w4.frozen? ⟨g, n * 35 + 2, none⟩ = false := frozen_of_row _ _ (n * 35 + 2) _ _ av4
     have av5 := av4.set (n * 35 + 2) (.bool true)
     have f5 := Fr.setCell w4 ⟨g, n * 35 + 2, none⟩ (.bool true)
     rw [hset] at av5
     replace hset := Lib.hid hset
     replace hprel := Lib.hid hprel
     replace av5 := Lib.hid av5
     replace f5 := Lib.hid f5
     replace av4 := Lib.hid av4
     replace hw4 := Lib.hid hw4
     go_upto_region 26 with (first
      | ((with_reducible refine wpList_loadF 30 aH3 ?_ _ 32 hx32.out Tryd.underlying30 ?_ ?_ ?_); rfl; rfl; kernel_rfl)
      | ((with_reducible refine wpList_storeMF 30 (x.map bv) hth2.out ?_ ?_ ?_ ?_ ?_); rfl; rfl; (rw [hx32.out]; kernel_rfl); exact hxone.out; rw [← hw4.out]))
     obtain ⟨w5, hw5⟩ : ∃ w5, w5 = w4.setCell ⟨g, n * 35 + 2, none⟩ (.bool true) := ⟨_, rfl⟩
     rw [← hw5] at av5 f5 ⊢
     replace hw5 := Lib.hid hw5
     have f45 : Fr (fun j => j = g) w3 w5 := f4.trans f5.out
     have aR5 := f45.av aR3 (Ne.symm hgR)
     have aG5 := f45.av aG3 (Ne.symm hgG)
     have aX5 := f45.av aX3 (Ne.symm hgX)
     have aY5 := f45.av aY (Ne.symm hgY)
     have o85 := own_fr o83 f45 (fun k e h => o8g.out (by rw [e, h]))
     have fr5 := Fr.transNew fr3 f45 (fun j h => .inr (by rw [h]; exact hgw))
     have o8X := Lib.hid (own_ne o85 aX5 (by decide))
     have hXw : w.heap.size ≤ X := hX0.out
     clear aR3 aG3 aX3 aY av3 o83 f4 f5 f45 aH3 aH4 c4 z4 av4 fr3 hth2
     go_wp2_with (first
      | ((with_reducible refine wpList_loadF 151 aY5 ?_ _ 2 rfl Tryd.underlying151 ?_ ?_ ?_); rfl; rfl; kernel_rfl)
      | ((with_reducible refine wpList_storeFA 151 (Below.refl X w5) aX5 (Nat.le_refl _) (pnc (h' : Int) (2 * (fi : Int) + 1)) ?_ ?_ 2 rfl ?_ ?_ ?_ ?_); rfl; rfl; kernel_rfl; rfl; rfl; intro w6 aX6 b6 k6 z6))
     have f6 := Fr.ofStore b6 k6 z6
     go_step3
     go_frame
     refine then_goto (jumps_goto ?_)
     have hl8 : (sk ++ [(⟨h' + 1, fi, some x⟩ : PFr)]).length = n + 1 := by rw [List.length_append, ← hn.out]; rfl
     have ok8 : ∀ f ∈ sk ++ [(⟨h' + 1, fi, some x⟩ : PFr)], f.ok := by
      intro f hf
      rcases List.mem_append.1 hf with hf | hf
      ·exact oks f hf
      ·rw [List.mem_singleton.1 hf]
       exact ⟨fun a ha => by cases ha; exact x32.out, by dsimp only; omega, hh', hfi⟩
     have o76 : w6.ownsRow B 164 35 (.slice (some ⟨g, 0, none⟩) (n + 1) c7) (sk ++ [(⟨h' + 1, fi, some x⟩ : PFr)]).length (skc (sk ++ [⟨h' + 1, fi, some x⟩])) := by
      rw [hl8]
      refine own_close (rest := rest) hBg hc7 hc7m (f6.av av5.out hgX) ?_ (by rw [skc_len ok8, hl8])
      have := hl7'.out
      simp only [List.length_append, skc_len ok8, hl8, hskl.out, opc_len okf] at this ⊢
      omega
     refine ⟨pPhi nf d (sk ++ [⟨h' + 1, fi, some x⟩]), ?_, .inl ⟨rfl, d, k, h', 2 * fi + 1, .slice (some ⟨g, 0, none⟩) (n + 1) c7, .slice A8 l.length c8, sk ++ [⟨h' + 1, fi, some x⟩], l, ?_, ?_, ok8, okl, by omega, hnw, hd, hlk, hk, ?_, rfl, ?_⟩⟩
     ·simp [pPhi]
      omega
     ·exact ⟨rfl, rfl, rfl, rfl, rfl, rfl, rfl, rfl, trivial⟩
     ·refine ⟨Fr.transNew fr5 f6 (fun j h => .inr (by rw [h]; exact hXw)), f6.av aR5 hRX, f6.av aG5 hGX, ?_, o76, own_fr o85 f6 (fun k e h => o8X.out (by rw [e, h]))⟩
      rw [show (((2 * fi + 1 : Nat) : Int)) = 2 * (fi : Int) + 1 by omega]
      exact aX6
     ·rw [hl8, hn.out]
      rw [hlen.out] at hsd
      exact hsd
     ·rw [List.reverse_append]
      exact hun2.out
 case pass0 =>
  intro key1
  have hA0 : R < w.heap.size := hA.lt
  clear HHt aG aR c0 hans hA
  intro m a w1 hJ
  obtain ⟨d, k, h, i, v7, v8, sk, l, hS, hW1, ok, okl, hh, hi, hd, hlk, hk, hsd, rfl, hun⟩ := hJ
  obtain ⟨fr, aR1, aG1, aX1, o7, o8⟩ := hW1
  obtain ⟨f, ⟨e0, e2, e5, e6, e7, e8, -⟩, rfl⟩ := hS.frame
  dsimp only at e0 e2 e5 e6 e7 e8
  rw [show (List.range 114).map f = [f 0, f 1, f 2, f 3, f 4, f 5, f 6, f 7, f 8, f 9, f 10, f 11, f 12, f 13, f 14, f 15, f 16, f 17, f 18, f 19, f 20, f 21, f 22, f 23, f 24, f 25, f 26, f 27, f 28, f 29, f 30, f 31, f 32, f 33, f 34, f 35, f 36, f 37, f 38, f 39, f 40, f 41, f 42, f 43, f 44, f 45, f 46, f 47, f 48, f 49, f 50, f 51, f 52, f 53, f 54, f 55, f 56, f 57, f 58, f 59, f 60, f 61, f 62, f 63, f 64, f 65, f 66, f 67, f 68, f 69, f 70, f 71, f 72, f 73, f 74, f 75, f 76, f 77, f 78, f 79, f 80, f 81, f 82, f 83, f 84, f 85, f 86, f 87, f 88, f 89, f 90, f 91, f 92, f 93, f 94, f 95, f 96, f 97, f 98, f 99, f 100, f 101, f 102, f 103, f 104, f 105, f 106, f 107, f 108, f 109, f 110, f 111, f 112, f 113] from rfl, e0, e2, e5, e6, e7, e8]
  clear e0 e2 e5 e6 e7 e8
  generalize f 1 = u1
  generalize f 3 = u3
  generalize f 4 = u4
  generalize f 9 = u9
  generalize f 10 = u10
  generalize f 11 = u11
  generalize f 12 = u12
  generalize f 13 = u13
  generalize f 14 = u14
  generalize f 15 = u15
  generalize f 16 = u16
  generalize f 17 = u17
  generalize f 18 = u18
  generalize f 19 = u19
  generalize f 20 = u20
  generalize f 21 = u21
  generalize f 22 = u22
  generalize f 23 = u23
  generalize f 24 = u24
  generalize f 25 = u25
  generalize f 26 = u26
  generalize f 27 = u27
  generalize f 28 = u28
  generalize f 29 = u29
  generalize f 30 = u30
  generalize f 31 = u31
  generalize f 32 = u32
  generalize f 33 = u33
  generalize f 34 = u34
  generalize f 35 = u35
  generalize f 36 = u36
  generalize f 37 = u37
  generalize f 38 = u38
  generalize f 39 = u39
  generalize f 40 = u40
  generalize f 41 = u41
  generalize f 42 = u42
  generalize f 43 = u43
  generalize f 44 = u44
  generalize f 45 = u45
  generalize f 46 = u46
  generalize f 47 = u47
  generalize f 48 = u48
  generalize f 49 = u49
  generalize f 50 = u50
  generalize f 51 = u51
  generalize f 52 = u52
  generalize f 53 = u53
  generalize f 54 = u54
  generalize f 55 = u55
  generalize f 56 = u56
  generalize f 57 = u57
  generalize f 58 = u58
  generalize f 59 = u59
  generalize f 60 = u60
  generalize f 61 = u61
  generalize f 62 = u62
  generalize f 63 = u63
  generalize f 64 = u64
  generalize f 65 = u65
  generalize f 66 = u66
  generalize f 67 = u67
  generalize f 68 = u68
  generalize f 69 = u69
  generalize f 70 = u70
  generalize f 71 = u71
  generalize f 72 = u72
  generalize f 73 = u73
  generalize f 74 = u74
  generalize f 75 = u75
  generalize f 76 = u76
  generalize f 77 = u77
  generalize f 78 = u78
  generalize f 79 = u79
  generalize f 80 = u80
  generalize f 81 = u81
  generalize f 82 = u82
  generalize f 83 = u83
  generalize f 84 = u84
  generalize f 85 = u85
  generalize f 86 = u86
  generalize f 87 = u87
  generalize f 88 = u88
  generalize f 89 = u89
  generalize f 90 = u90
  generalize f 91 = u91
  generalize f 92 = u92
  generalize f 93 = u93
  generalize f 94 = u94
  generalize f 95 = u95
  generalize f 96 = u96
  generalize f 97 = u97
  generalize f 98 = u98
  generalize f 99 = u99
  generalize f 100 = u100
  generalize f 101 = u101
  generalize f 102 = u102
  generalize f 103 = u103
  generalize f 104 = u104
  generalize f 105 = u105
  generalize f 106 = u106
  generalize f 107 = u107
  generalize f 108 = u108
  generalize f 109 = u109
  generalize f 110 = u110
  generalize f 111 = u111
  generalize f 112 = u112
  generalize f 113 = u113
  clear hS f
  have hzone : (zs32.map bv).all (·.oneCell') = true := rfl
  have hGw : w.heap.size ≤ G := by rw [hG.out]; exact Nat.le_refl _
  have hGR : G ≠ R := Av.ne aG1 aR1 (by decide)
  have hGX : G ≠ X := Av.ne aG1 aX1 (by decide)
  have hRX : R ≠ X := Av.ne aR1 aX1 (by decide)
  have o7R := own_ne o7 aR1 (by decide)
  have o8R := own_ne o8 aR1 (by decide)
  have rf1 := fr.rdE hrf hAf.out
  have rh1 := fr.rdE hrh hAh.out
  have hi4 : i ≤ 4096 := Nat.le_trans (Nat.le_of_lt hi) (Nat.le_trans (pWd_le tot h ht0) ht)
  have hd9 : d ≤ 80000 := by omega
  replace hi := Lib.hid hi
  replace hzone := Lib.hid hzone
  replace hun := Lib.hid hun
  replace o7R := Lib.hid o7R
  replace o8R := Lib.hid o8R
  cases hdg : pDig fl d with
  | none =>
   have hd8 : 8 * nf ≤ d := by
    apply Decidable.byContradiction
    intro hc
    rw [pDig_get (by rw [hnf.out]; omega)] at hdg
    cases hdg
   have HD := PDigit_none tot Ah nh ch Af nf cf d k R hd8 (by omega) w1 aR1
   replace hdg := Lib.hid hdg
   replace HD := Lib.hid HD
   clear o7 o8
   go_upto_region 6 with (go_at_call 64; refine (HD.out).mono ?_; rintro e w2 ⟨rfl, rfl⟩)
   go_wp2_with (first
    | ((with_reducible refine wpList_storeFA 30 (Below.refl G w2) aG1 (Nat.le_refl _) (zs32.map bv) ?_ ?_ 32 rfl ?_ ?_ ?_ ?_); rfl; rfl; kernel_rfl; rfl; exact hzone.out; intro w9 a9 b9 k9 z9))
   refine jumps_ret ?_
   have f9 := Fr.ofStore b9 k9 z9
   refine bodyPost_ret (v := .tuple #[.agg (hcs zs32), .slice none 0 0, .bool false]) ((results_cellAv2 (C := zs32.map bv) (by rfl) (by rfl) a9 _ Tryd.underlying30 rfl 32 rfl (by kernel_rfl)).trans (by rfl)) (by rfl) ?_
   refine ⟨Fr.transNew fr f9 (fun j h => .inr (by rw [h]; exact hGw)), ?_⟩
   rw [← hun.out, pDown_none hdg.out]
   exact ⟨rfl, _, _, f9.av aR1 (Ne.symm hGR)⟩
  | some b =>
   have hd8 : d < 8 * nf := by have := pDig_some hdg; rw [hnf.out] at this; exact this
   have HD := PDigit fl b tot Ah nh ch Af nf cf d k R hnf.out hdg (by omega) w1 aR1 rf1 (hAf.out (fun e => by have := congrArg List.length e; rw [List.length_map, hnf.out] at this; simp at this; omega))
   replace hdg := Lib.hid hdg
   replace HD := Lib.hid HD
   go_upto_region 8 with (go_at_call 64; refine (HD.out).mono ?_; rintro e w2 ⟨rfl, aR2, f2⟩)
   have aG2 := f2.av aG1 hGR
   have aX2 := f2.av aX1 (Ne.symm hRX)
   have o72 := own_fr o7 f2 (fun k e h => o7R.out (by rw [e, h]))
   have o82 := own_fr o8 f2 (fun k e h => o8R.out (by rw [e, h]))
   have rh2 := (fr.trans f2).rdE hrh hAh.out
   have fr2 := fr.trans f2
   clear o7 o8 aG1 aX1 aR1 f2 fr rf1 rh1 HD
   have hBw : w.heap.size ≤ B := by rw [hB.out]; exact Nat.le_refl _
   have xh := aX2.cell 0 _ rfl
   have xi := aX2.cell 1 _ rfl
   by_cases hgo : b = true ∧ 0 < h
   ·obtain ⟨rfl, h0⟩ := hgo
    obtain ⟨h', eh⟩ : ∃ h', h = h' + 1 := ⟨h - 1, by omega⟩
    have hun2 : pDown tot fl hs (⟨h, i, none⟩ :: sk.reverse) h' (2 * i) l (d + 1) k = ans := by
     subst eh
     rw [← pDown_go hdg.out]
     exact hun.out
    have hi2 : 2 * i < pWd tot h' := by
     have := hi.out
     rw [eh, pWd_succ] at this
     omega
    have okn : (⟨h, i, none⟩ : PFr).ok := ⟨(fun a e => by cases e), h0, hh, hi4⟩
    have hl35 := opc_len okn
    have one35 := opc_one ⟨h, i, none⟩
    have HL : ∀ w', Calls Tryd.prog 65 #[.agg (pnc (h : Int) (i : Int)).toArray] w' fun e w'' => e = .returned (.agg (pnc (h' : Int) (2 * (i : Int))).toArray) ∧ Below w'.heap.size w' w'' := fun w' => by
     have := PLeft (h : Int) (i : Int) (by omega) (by omega) (by omega) (by omega) w'
     rwa [show (h : Int) - 1 = (h' : Int) by omega] at this
    have hgt : decide ((0 : Int) < (h : Int)) = true := by simp; omega
    obtain ⟨n, hn⟩ : ∃ n, n = sk.length := ⟨_, rfl⟩
    rw [← hn] at o72
    have nb : n ≤ 80000 := by omega
    have bal := (Below.refl w2.heap.size w2).alloc (Nat.le_refl _) (.cells (opc ⟨h, i, none⟩).toArray 164)
    have o7b := own_below o72 bal
    have o8b := own_below o82 bal
    have aRb := aR2.below bal
    have aGb := aG2.below bal
    have aXb := aX2.below bal
    have frb := fr2.trans (Below.fr bal)
    have hBb : B ≤ (w2.alloc (.cells (opc ⟨h, i, none⟩).toArray 164)).heap.size := by rw [hB.out]; exact frb.size
    replace eh := Lib.hid eh
    replace hun2 := Lib.hid hun2
    replace hi2 := Lib.hid hi2
    replace hl35 := Lib.hid hl35
    replace one35 := Lib.hid one35
    replace HL := Lib.hid HL
    replace hn := Lib.hid hn
    replace hBb := Lib.hid hBb
    clear bal hun
    go_upto_region 10 with (first
     | ((with_reducible refine wpList_loadF 151 aX2 ?_ _ 2 rfl Tryd.underlying151 ?_ ?_ ?_); rfl; rfl; kernel_rfl)
     | ((with_reducible refine wpList_bld (.agg (opc ⟨h, i, none⟩).toArray) ?_ ?_); kernel_rfl)
     | ((with_reducible refine wpList_build1 (e := 164) Tryd.underlying160 infoOp zeroOp ?_ ?_ (opc ⟨h, i, none⟩) hl35.out ?_ ?_); decide; decide; rfl)
     | (at_builtin; refine wpList_appE Tryd.underlying160 infoOp zeroOp (by decide) o7b hBb.out (opc ⟨h, i, none⟩) 1 1 (Av.rd (t := 164) (heap_alloc_new _ _)) (by rw [hl35.out]) one35.out (by omega) (by omega) rfl (.tmp 38) (.tmp 41) rfl rfl rfl ?_; intro v9 w9 o9 gr9 ob9))
    have f9 := Fr.of_grown gr9
    have aR9 := f9.av aRb (fun e => own_ne o7b aRb (by decide) e.symm)
    have aG9 := f9.av aGb (fun e => own_ne o7b aGb (by decide) e.symm)
    have aX9 := f9.av aXb (fun e => own_ne o7b aXb (by decide) e.symm)
    have o89 := own_fr o8b f9 (fun k e q => own_ne2 o7b o8b (by decide) k e q.symm)
    have fr9 := Fr.app frb o7b hBw gr9
    clear f9 ob9 gr9 o7b o8b aRb aGb aXb frb xh xi aX2 aG2 aR2 o72 o82 rh2 fr2
    go_wp2_with (first
     | ((with_reducible refine wpList_loadF 151 aX9 ?_ _ 2 rfl Tryd.underlying151 ?_ ?_ ?_); rfl; rfl; kernel_rfl)
     | (go_at_call 65; refine (HL.out w9).mono ?_; rintro e w10 ⟨rfl, b10⟩)
     | ((with_reducible refine wpList_storeFA 151 (Below.refl X w10) (aX9.below b10) (Nat.le_refl _) (pnc (h' : Int) (2 * (i : Int))) ?_ ?_ 2 rfl ?_ ?_ ?_ ?_); rfl; rfl; kernel_rfl; rfl; rfl; intro w11 aX11 b11 k11 z11))
    have f11 := Fr.ofStore b11 k11 z11
    have hXw : w.heap.size ≤ X := hX0.out
    have o9X := own_ne (own_below o9 b10) (aX9.below b10) (by decide)
    have o8X := own_ne (own_below o89 b10) (aX9.below b10) (by decide)
    go_step3
    go_frame
    refine then_goto (jumps_goto ?_)
    have hl8 : (sk ++ [(⟨h, i, none⟩ : PFr)]).length = n + 1 := by rw [List.length_append, ← hn.out]; rfl
    have ok8 : ∀ f ∈ sk ++ [(⟨h, i, none⟩ : PFr)], f.ok := by
     intro f hf
     rcases List.mem_append.1 hf with hf | hf
     ·exact ok f hf
     ·rw [List.mem_singleton.1 hf]
      exact okn
    refine ⟨pPhi nf (d + 1) (sk ++ [⟨h, i, none⟩]), ?_, .inl ⟨rfl, d + 1, k, h', 2 * i, v9, v8, sk ++ [⟨h, i, none⟩], l, ?_, ?_, ok8, okl, by have := eh.out; omega, hi2.out, hd8, hlk, hk, ?_, rfl, ?_⟩⟩
    ·simp [pPhi]
     omega
    ·exact ⟨rfl, rfl, rfl, rfl, rfl, rfl, rfl, rfl, trivial⟩
    ·refine ⟨Fr.transNew (fr9.trans (Below.fr b10)) f11 (fun j e => .inr (by rw [e]; exact hXw)), f11.av (aR9.below b10) hRX, f11.av (aG9.below b10) hGX, ?_, ?_, own_fr (own_below o89 b10) f11 (fun k e q => o8X (by rw [e, q]))⟩
     ·rw [show (((2 * i : Nat) : Int)) = 2 * (i : Int) by omega]
      exact aX11
     ·rw [hl8, ← skc_snoc]
      exact own_fr (own_below o9 b10) f11 (fun k e q => o9X (by rw [e, q]))
    ·rw [hl8, hn.out]
     omega
    ·rw [List.reverse_append]
     exact hun2.out
   ·have hb0 : b = true → h = 0 := fun e => by
     apply Decidable.byContradiction
     intro hc
     exact hgo ⟨e, by omega⟩
    cases hxk : hs[k]? with
    | none =>
     have hk2 : nh ≤ k := by rw [← hnh.out]; exact List.getElem?_eq_none_iff.1 hxk
     have HH := PHash_none tot Ah nh ch Af nf cf (d + 1) k R hk2 (by omega) w2 aR2
     have hans2 : ans = none := by rw [← hun.out, pDown_none2 hb0 hdg.out hxk]
     subst hans2
     replace HH := Lib.hid HH
     replace hxk := Lib.hid hxk
     clear o72 o82 rh2 hun
     cases b with
     | false =>
      go_upto_region 12 with (first
       | (go_at_call 66; refine (HH.out).mono ?_; rintro e w3 ⟨rfl, b3⟩)
       | ((with_reducible refine wpList_storeF 30 ((Below.refl w3.heap.size w3).alloc (Nat.le_refl _) _) (heap_alloc_new _ _) (Nat.le_refl _) (zs32.map bv) ?_ ?_ 32 rfl ?_ ?_ ?_ ?_); rfl; rfl; kernel_rfl; rfl; exact hzone.out; intro w4 aH4 b4 k4 z4))
      have b24 := b3.trans (b4.mono b3.size)
      have aG4 := aG2.below b24
      have aR4 := aR2.below b24
      have fr4 := fr2.trans (Below.fr b24)
      clear aG2 aR2 aX2 b3 b4 k4 z4 b24 fr2 xh xi
      go_wp2_with (first
       | ((with_reducible refine wpList_storeFA 30 (Below.refl G w4) aG4 (Nat.le_refl _) (zs32.map bv) ?_ ?_ 32 rfl ?_ ?_ ?_ ?_); rfl; rfl; kernel_rfl; rfl; exact hzone.out; intro w9 a9 b9 k9 z9))
      refine jumps_ret ?_
      have f9 := Fr.ofStore b9 k9 z9
      refine bodyPost_ret (v := .tuple #[.agg (hcs zs32), .slice none 0 0, .bool false]) ((results_cellAv2 (C := zs32.map bv) (by rfl) (by rfl) a9 _ Tryd.underlying30 rfl 32 rfl (by kernel_rfl)).trans (by rfl)) (by rfl) ?_
      exact ⟨Fr.transNew fr4 f9 (fun j h => .inr (by rw [h]; exact hGw)), rfl, _, _, f9.av aR4 (Ne.symm hGR)⟩
     | true =>
      obtain rfl := hb0 rfl
      have hgt : decide ((0 : Int) < ((0 : Nat) : Int)) = false := rfl
      go_upto_region 12 with (first
       | (go_at_call 66; refine (HH.out).mono ?_; rintro e w3 ⟨rfl, b3⟩)
       | ((with_reducible refine wpList_storeF 30 ((Below.refl w3.heap.size w3).alloc (Nat.le_refl _) _) (heap_alloc_new _ _) (Nat.le_refl _) (zs32.map bv) ?_ ?_ 32 rfl ?_ ?_ ?_ ?_); rfl; rfl; kernel_rfl; rfl; exact hzone.out; intro w4 aH4 b4 k4 z4))
      have b24 := b3.trans (b4.mono b3.size)
      have aG4 := aG2.below b24
      have aR4 := aR2.below b24
      have fr4 := fr2.trans (Below.fr b24)
      clear aG2 aR2 aX2 b3 b4 k4 z4 b24 fr2 xh xi
      go_wp2_with (first
       | ((with_reducible refine wpList_storeFA 30 (Below.refl G w4) aG4 (Nat.le_refl _) (zs32.map bv) ?_ ?_ 32 rfl ?_ ?_ ?_ ?_); rfl; rfl; kernel_rfl; rfl; exact hzone.out; intro w9 a9 b9 k9 z9))
      refine jumps_ret ?_
      have f9 := Fr.ofStore b9 k9 z9
      refine bodyPost_ret (v := .tuple #[.agg (hcs zs32), .slice none 0 0, .bool false]) ((results_cellAv2 (C := zs32.map bv) (by rfl) (by rfl) a9 _ Tryd.underlying30 rfl 32 rfl (by kernel_rfl)).trans (by rfl)) (by rfl) ?_
      exact ⟨Fr.transNew fr4 f9 (fun j h => .inr (by rw [h]; exact hGw)), rfl, _, _, f9.av aR4 (Ne.symm hGR)⟩
    | some x =>
     obtain ⟨hkl, hxe⟩ := List.getElem?_eq_some_iff.1 hxk
     have x32 : x.length = 32 := h32 x (by rw [← hxe]; exact List.getElem_mem hkl)
     have hx32 : (x.map bv).length = 32 := by rw [List.length_map, x32]
     have hxone : (x.map bv).all (·.oneCell') = true := List.all_eq_true.2 (bv_one x)
     have hk1 : k + 1 ≤ nh := by rw [← hnh.out]; exact hkl
     have HH := PHash hs h32 x tot Ah nh ch Af nf cf (d + 1) k R hnh.out hxk (by omega) w2 aR2 rh2 (hAh.out (fun e => by have := congrArg List.length e; rw [hcl_length h32, hnh.out] at this; simp at this; omega))
     have hun2 : pUp tot fl hs sk.reverse x (if b then l ++ [(i, x)] else l) (d + 1) (k + 1) = ans := by rw [← pDown_zero hb0 hdg.out hxk]; exact hun.out
     have o7R2 := own_ne o72 aR2 (by decide)
     have o8R2 := own_ne o82 aR2 (by decide)
     replace HH := Lib.hid HH
     replace hxk := Lib.hid hxk
     replace hxe := Lib.hid hxe
     replace x32 := Lib.hid x32
     replace hx32 := Lib.hid hx32
     replace hxone := Lib.hid hxone
     replace hun2 := Lib.hid hun2
     replace o7R2 := Lib.hid o7R2
     replace o8R2 := Lib.hid o8R2
     clear hun rh2
     cases b with
     | false =>
      go_upto_region 14 with (first
       | (go_at_call 66; refine (HH.out).mono ?_; rintro e w3 ⟨rfl, aR3, f3⟩)
       | ((with_reducible refine wpList_storeF 30 ((Below.refl w3.heap.size w3).alloc (Nat.le_refl _) _) (heap_alloc_new _ _) (Nat.le_refl _) (x.map bv) ?_ ?_ 32 hx32.out ?_ ?_ ?_ ?_); rfl; rfl; kernel_rfl; rfl; exact hxone.out; intro w4 aH4 b4 k4 z4))
      obtain ⟨Hh, hHh⟩ : ∃ Hh, Hh = w3.heap.size := ⟨_, rfl⟩
      rw [← hHh] at aH4 ⊢
      have aX3 := f3.av aX2 (Ne.symm hRX)
      have aG3 := f3.av aG2 hGR
      have o73 := own_fr o72 f3 (fun k e q => o7R2.out (by rw [e, q]))
      have o83 := own_fr o82 f3 (fun k e q => o8R2.out (by rw [e, q]))
      have fr3 := fr2.trans f3
      have hBH : B ≤ Hh := by rw [hHh, hB.out]; exact fr3.size
      have nHG : Hh ≠ G := by have := aG3.lt; omega
      have aX4 := aX3.below b4
      have aG4 := aG3.below b4
      have aR4 := aR3.below b4
      have o74 := own_below o73 b4
      have o84 := own_below o83 b4
      have fr4 := fr3.trans (Below.fr b4)
      replace hHh := Lib.hid hHh
      clear aX2 aG2 aR2 o72 o82 fr2 aX3 aG3 aR3 o73 o83 fr3 f3 b4 k4 z4 xh xi HH
      go_upto_region 16 with fail
      go_step3
      rename_i Q' K hK
      refine hK _ _ (jumps_mono ?_ (key1 (pPhi nf (d + 1) sk + 1) _ _ ?_))
      ·rintro l' a' w' ⟨m', hm', hq⟩
       refine ⟨m', Nat.lt_trans hm' ?_, hq⟩
       simp [pPhi]
       omega
      ·exact ⟨d + 1, k + 1, h, i, v7, v8, sk, l, x, Hh, ⟨rfl, rfl, rfl, rfl, rfl, rfl, rfl, rfl, rfl, trivial⟩, ⟨fr4, aR4, aG4, aX4, o74, o84⟩, ok, okl, aH4, hBH, nHG, x32.out, hd8, Nat.le_succ_of_le hlk, hk1, Nat.le_succ_of_le hsd, rfl, hun2.out⟩
     | true =>
      obtain rfl := hb0 rfl
      have hgt : decide ((0 : Int) < ((0 : Nat) : Int)) = false := rfl
      go_upto_region 14 with (first
       | (go_at_call 66; refine (HH.out).mono ?_; rintro e w3 ⟨rfl, aR3, f3⟩)
       | ((with_reducible refine wpList_storeF 30 ((Below.refl w3.heap.size w3).alloc (Nat.le_refl _) _) (heap_alloc_new _ _) (Nat.le_refl _) (x.map bv) ?_ ?_ 32 hx32.out ?_ ?_ ?_ ?_); rfl; rfl; kernel_rfl; rfl; exact hxone.out; intro w4 aH4 b4 k4 z4))
      obtain ⟨Hh, hHh⟩ : ∃ Hh, Hh = w3.heap.size := ⟨_, rfl⟩
      rw [← hHh] at aH4 ⊢
      have aX3 := f3.av aX2 (Ne.symm hRX)
      have aG3 := f3.av aG2 hGR
      have o73 := own_fr o72 f3 (fun k e q => o7R2.out (by rw [e, q]))
      have o83 := own_fr o82 f3 (fun k e q => o8R2.out (by rw [e, q]))
      have fr3 := fr2.trans f3
      have hBH : B ≤ Hh := by rw [hHh, hB.out]; exact fr3.size
      have nHG : Hh ≠ G := by have := aG3.lt; omega
      have aX4 := aX3.below b4
      have aG4 := aG3.below b4
      have aR4 := aR3.below b4
      have o74 := own_below o73 b4
      have o84 := own_below o83 b4
      have fr4 := fr3.trans (Below.fr b4)
      replace hHh := Lib.hid hHh
      clear aX2 aG2 aR2 o72 o82 fr2 aX3 aG3 aR3 o73 o83 fr3 f3 b4 k4 z4 xh xi HH
      have xi4 := aX4.cell 1 _ rfl
      have hl33 : (mtc (i, x)).length = 33 := mtc_len x32.out
      have one33 := mtc_one (i, x)
      obtain ⟨nl, hnl⟩ : ∃ nl, nl = l.length := ⟨_, rfl⟩
      rw [← hnl] at o84
      have nb : nl ≤ 10000 := by omega
      have bal := (Below.refl w4.heap.size w4).alloc (Nat.le_refl _) (.cells (mtc (i, x)).toArray 61)
      have o7b := own_below o74 bal
      have o8b := own_below o84 bal
      have aRb := aR4.below bal
      have aGb := aG4.below bal
      have aXb := aX4.below bal
      have aHb := aH4.below bal
      have frb := fr4.trans (Below.fr bal)
      have hBb : B ≤ (w4.alloc (.cells (mtc (i, x)).toArray 61)).heap.size := by rw [hB.out]; exact frb.size
      replace hl33 := Lib.hid hl33
      replace one33 := Lib.hid one33
      replace hnl := Lib.hid hnl
      replace hBb := Lib.hid hBb
      clear bal
      go_upto_region 16 with (first
       | ((with_reducible refine wpList_loadF 30 aH4 ?_ _ 32 hx32.out Tryd.underlying30 ?_ ?_ ?_); rfl; rfl; kernel_rfl)
       | ((with_reducible refine wpList_build_mt (i : Int) x x32.out ?_ ?_ ?_); rfl; rfl)
       | ((with_reducible refine wpList_build1 (e := 61) Tryd.underlying49 infoMt zeroMt ?_ ?_ (mtc (i, x)) hl33.out ?_ ?_); decide; decide; rfl)
       | (at_builtin; refine wpList_appE Tryd.underlying49 infoMt zeroMt (by decide) o8b hBb.out (mtc (i, x)) 1 1 (Av.rd (t := 61) (heap_alloc_new _ _)) (by rw [hl33.out]) one33.out (by omega) (by omega) rfl (.tmp 54) (.tmp 59) rfl rfl rfl ?_; intro v9 w9 o9 gr9 ob9))
      have f9 := Fr.of_grown gr9
      have aR9 := f9.av aRb (fun e => own_ne o8b aRb (by decide) e.symm)
      have aG9 := f9.av aGb (fun e => own_ne o8b aGb (by decide) e.symm)
      have aX9 := f9.av aXb (fun e => own_ne o8b aXb (by decide) e.symm)
      have aH9 := f9.av aHb (fun e => own_ne o8b aHb (by decide) e.symm)
      have o79 := own_fr o7b f9 (fun k e q => own_ne2 o8b o7b (by decide) k e q.symm)
      have fr9 := Fr.app frb o8b hBw gr9
      have hll : (l ++ [(i, x)]).length = nl + 1 := by rw [List.length_append, ← hnl.out]; rfl
      have okl2 : ∀ p ∈ l ++ [(i, x)], p.2.length = 32 := by
       intro p hp
       rcases List.mem_append.1 hp with hp | hp
       ·exact okl p hp
       ·rw [List.mem_singleton.1 hp]
        exact x32.out
      clear f9 ob9 gr9 o7b o8b aRb aGb aXb aHb frb aR4 aG4 aX4 aH4 fr4 o74 o84 xi4
      go_step3
      rename_i Q' K hK
      refine hK _ _ (jumps_mono ?_ (key1 (pPhi nf (d + 1) sk + 1) _ _ ?_))
      ·rintro l' a' w' ⟨m', hm', hq⟩
       refine ⟨m', Nat.lt_trans hm' ?_, hq⟩
       simp [pPhi]
       omega
      ·refine ⟨d + 1, k + 1, 0, i, v7, v9, sk, l ++ [(i, x)], x, Hh, ⟨rfl, rfl, rfl, rfl, rfl, rfl, rfl, rfl, rfl, trivial⟩, ⟨fr9, aR9, aG9, aX9, o79, ?_⟩, ok, okl2, aH9, hBH, nHG, x32.out, hd8, by rw [hll, hnl.out]; omega, hk1, Nat.le_succ_of_le hsd, rfl, hun2.out⟩
       rw [hll, ← mlc_snoc]
       exact o9
 case first =>
  intro key
  go_upto_region 5 with (first
   | (go_at_call 63; refine (HHt.out).mono ?_; rintro e w1 ⟨rfl, rfl⟩))
  go_step3
  rename_i Q' K hK
  refine hK _ _ (jumps_mono (Y := fun l a w' => ∃ m, (l = 0 ∧ pJ0 fl hs tot Ah nh ch Af nf cf R G X B w ans m a w' ∨ l = 1 ∧ pJ1 fl hs tot Ah nh ch Af nf cf R G X B w ans m a w')) ?_ (key (pPhi nf 0 []) _ _ ?_))
  ·rintro l a' w' ⟨m', _, h⟩
   exact ⟨m', h⟩
  ·refine ⟨0, 0, H0, 0, .slice none 0 0, .slice none 0 0, [], [], ⟨rfl, rfl, rfl, rfl, rfl, by rw [hX.out]; rfl, rfl, rfl, trivial⟩, ?_, by simp, by simp, ?_, ?_, Nat.zero_le _, Nat.le_refl _, Nat.zero_le _, Nat.le_refl _, rfl, ?_⟩
   ·have bX := (Below.refl w1.heap.size w1).alloc (Nat.le_refl _) (.cells (pnc (H0 : Int) 0).toArray 151)
    refine ⟨Below.fr (bW.trans (bX.mono bW.size)), aR.below bX, aG.below bX, ?_, World.ownsRow_nil _ _ _ _, World.ownsRow_nil _ _ _ _⟩
    rw [hX.out]
    exact Av.new _ _ _
   ·rw [hH0.out]; exact (pHt_spec tot ht).1
   ·rw [hH0.out]
    have hp : 0 < 2 ^ pHt tot := Nat.pow_pos (by omega)
    unfold pWd
    exact Nat.div_pos (by omega) hp
   ·rw [hans.out]
    show pDown tot fl hs [] H0 0 [] 0 0 = _
    unfold pDown
    rw [pUnw]
    cases pRd tot fl hs H0 0 0 0 <;> rfl
end Go.Proofs.YtobjgebojhjhnaaDoor
