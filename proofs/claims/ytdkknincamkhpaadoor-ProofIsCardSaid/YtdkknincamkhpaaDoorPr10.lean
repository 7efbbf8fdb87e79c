/- Blf; Gn; Row; Pk: put together for the claim. -/
import Derived.Test.YtdkknincamkhpaaDoorPr5
import Derived.Test.YtdkknincamkhpaaDoorRelG
import Derived.Test.YtdkknincamkhpaaDoorPr2
import Derived.Test.YtdkknincamkhpaaDoorPr9
import Derived.Laws.BitsLemmas
import Derived.Laws.Shifts
import Derived.Laws.ShiftsVarLaws
import Derived.Outline
/- Loads and stores of whole rows, by the operation's own form. -/
namespace Go.Proofs.YtdkknincamkhpaaDoor
open Go.RowKit
/-- loads and stores of rows, known by the operation's own form and its type's number: no other operation is tried -/
theorem wpList_loadF {P : Program} (ty : TypeId) {w : World} {g : Nat} {t : TypeId} {l : List Value} (h : Av w g t l) {ops : Array Oper} {rest : List Oper} {a : Act} {Q : Exit → Act → World → Prop} {d tp pos af} {x : Operand}
    (hx : a.eval x = .pointer (some ⟨g, 0, none⟩)) (dd : TypeDesc) (n : Nat) (hn : l.length = n) (hu : P.underlying ty = some dd) (hd : (match dd with | .struct _ | .array _ _ => true | _ => false) = true) (hi : (P.info? ty).map (·.size) = some n)
    (k : wpList P ops Q rest (a.put d (.agg l.toArray)) w) : wpList P ops Q (⟨d, .load ty x, tp, pos, af, none⟩ :: rest) a w :=
  wpList_loadAv h rfl ty x rfl hx dd n hn hu hd hi k
theorem wpList_loadMF {P : Program} (ty : TypeId) {w : World} {b off : Nat} (cs : List Value) (hc : w.rangeAt b off cs) {ops : Array Oper} {rest : List Oper} {a : Act} {Q : Exit → Act → World → Prop} {d tp pos af} {x : Operand}
    (hx : a.eval x = .pointer (some ⟨b, off, none⟩)) (dd : TypeDesc) (hu : P.underlying ty = some dd) (hd : dd.isRow = true) (hi : (P.info? ty).map (·.size) = some cs.length)
    (k : wpList P ops Q rest (a.put d (.agg cs.toArray)) w) : wpList P ops Q (⟨d, .load ty x, tp, pos, af, none⟩ :: rest) a w :=
  wpList_execW rfl (exec_load_mid ty x rfl b off hx cs dd hc hu hd hi) k
theorem wpList_storeF {P : Program} (ty : TypeId) {w w0 : World} {B g : Nat} {t : TypeId} {old : Array Value} (hb : Below B w0 w) (h : w.heap[g]? = some (.cells old t (0, 0))) (hB : B ≤ g) (l : List Value) {ops : Array Oper} {rest : List Oper} {a : Act} {Q : Exit → Act → World → Prop} {d tp pos af} {x y : Operand}
    (hx : a.eval x = .pointer (some ⟨g, 0, none⟩)) (hy : a.eval y = .agg l.toArray) (n : Nat) (hn : l.length = n) (hi : (P.info? ty).map (·.size) = some n) (hold : old.size = n) (h1 : l.all (·.oneCell') = true)
    (k : ∀ w2, Av w2 g t l → Below B w0 w2 → (∀ k, k ≠ g → w2.heap[k]? = w.heap[k]?) → w2.heap.size = w.heap.size → wpList P ops Q rest (a.put d undef) w2) : wpList P ops Q (⟨d, .store ty x y, tp, pos, af, none⟩ :: rest) a w :=
  wpList_storeAv hb h hB rfl ty x y rfl hx l hy n hn hi hold h1 k
theorem wpList_storeFA {P : Program} (ty : TypeId) {w w0 : World} {B g : Nat} {t : TypeId} {old : List Value} (hb : Below B w0 w) (h : Av w g t old) (hB : B ≤ g) (l : List Value) {ops : Array Oper} {rest : List Oper} {a : Act} {Q : Exit → Act → World → Prop} {d tp pos af} {x y : Operand}
    (hx : a.eval x = .pointer (some ⟨g, 0, none⟩)) (hy : a.eval y = .agg l.toArray) (n : Nat) (hn : l.length = n) (hi : (P.info? ty).map (·.size) = some n) (hold : old.length = n) (h1 : l.all (·.oneCell') = true)
    (k : ∀ w2, Av w2 g t l → Below B w0 w2 → (∀ k, k ≠ g → w2.heap[k]? = w.heap[k]?) → w2.heap.size = w.heap.size → wpList P ops Q rest (a.put d undef) w2) : wpList P ops Q (⟨d, .store ty x y, tp, pos, af, none⟩ :: rest) a w :=
  wpList_storeAv hb h hB rfl ty x y rfl hx l hy n hn hi (by simpa using hold) h1 k
end Go.Proofs.YtdkknincamkhpaaDoor
/- A struct result beside a plain one; guarded loads of rows, guarded operations. -/
namespace Go.Proofs.YtdkknincamkhpaaDoor
open Go.RowKit
theorem results_cellU {fn : Func} {p u : Tmp} {ty : TypeId} (h : fn.results = #[.cell p ty, .tmp u]) {tmps : Array Value} {P : Program} {w : World} {g : Nat} {t : TypeId} {C : List Value} (hp : tmps.getD p undef = .pointer (some ⟨g, 0, none⟩)) (ha : Av w g t C) (d : TypeDesc) (hu : P.underlying ty = some d) (hd : d.isRow = true)
    (n : Nat) (hn : C.length = n) (hi : (P.info? ty).map (·.size) = some n) :
    (results fn tmps).run P w = .ok (.tuple #[.agg C.toArray, tmps.getD u undef]) w := by
  rw [results_cell_tmp h, hp]
  simp only [asAddr, Sem.run_pure, Result.andThen_ok, run_loadVar_row w g t ty _ _ d ha hu (by cases d <;> first | rfl | (simp [TypeDesc.isRow] at hd)) (by rw [List.size_toArray, hn]; exact hi)]
theorem wpList_binG {P : Program} {ops : Array Oper} {rest : List Oper} {a : Act} {w : World} {Q : Exit → Act → World → Prop} {d tp pos af gd} {op : BinOp} {ty ty' : TypeId} {x y : Operand} (hw : Region.wanted ⟨d, .binOp op ty x y ty', tp, pos, af, gd⟩ (yielded ops a.tmps) = true) {X Y : Value} (hx : a.eval x = X) (hy : a.eval y = Y) {c : Value}
    (h : ((do eqGuard op ty x y X Y; binOp op ty X Y : Sem Value)).run P w = .ok c w) (k : wpList P ops Q rest (a.put d c) w) : wpList P ops Q (⟨d, .binOp op ty x y ty', tp, pos, af, gd⟩ :: rest) a w := by
  refine wpList_execW hw ?_ k
  have e : execOp a.eval ⟨d, .binOp op ty x y ty', tp, pos, af, gd⟩ = (do pure (.value (← (do eqGuard op ty x y (a.eval x) (a.eval y); binOp op ty (a.eval x) (a.eval y))))) := by
    unfold execOp
    rfl
  rw [e, hx, hy, Sem.run_bind, h]
  rfl
theorem wpList_loadG {P : Program} (ty : TypeId) {w : World} {g : Nat} {t : TypeId} {l : List Value} (h : Av w g t l) {ops : Array Oper} {rest : List Oper} {a : Act} {Q : Exit → Act → World → Prop} {d tp pos af gd} {x : Operand}
    (hw : Region.wanted ⟨d, .load ty x, tp, pos, af, gd⟩ (yielded ops a.tmps) = true) (hx : a.eval x = .pointer (some ⟨g, 0, none⟩)) (dd : TypeDesc) (n : Nat) (hn : l.length = n) (hu : P.underlying ty = some dd) (hd : (match dd with | .struct _ | .array _ _ => true | _ => false) = true) (hi : (P.info? ty).map (·.size) = some n)
    (k : wpList P ops Q rest (a.put d (.agg l.toArray)) w) : wpList P ops Q (⟨d, .load ty x, tp, pos, af, gd⟩ :: rest) a w :=
  wpList_execW hw (exec_loadAv h ty x rfl hx dd n hn hu hd hi) k
end Go.Proofs.YtdkknincamkhpaaDoor
/- A slice of bytes that came in. -/
namespace Go.Proofs.YtdkknincamkhpaaDoor
open Go.RowKit

end Go.Proofs.YtdkknincamkhpaaDoor
/- partial: digit, hash, done, may, left, right. -/
namespace Go.Proofs.YtdkknincamkhpaaDoor
open Go.RowKit
attribute [local go_sem high] slB_lh slB_l slB_h
/-- the cells of a part, of one that is read -/
abbrev trc (tot : Nat) (Ah : Option Addr) (nh ch : Nat) (Af : Option Addr) (nf cf : Nat) : List Value := [.int .u32 (tot : Int), .slice Ah nh ch, .slice Af nf cf]
abbrev rdc (tot : Nat) (Ah : Option Addr) (nh ch : Nat) (Af : Option Addr) (nf cf d k : Nat) : List Value := [.int .u32 (tot : Int), .slice Ah nh ch, .slice Af nf cf, .int .i64 (d : Int), .int .i64 (k : Int)]
set_option maxRecDepth 10000 in
theorem and_one_fin : ∀ v : Fin 256, bits .and .u8 (v.val : Int) 1 = ((v.val % 2 : Nat) : Int) := by decide
theorem and_one_u8 (x s : Nat) (hx : x < 256) : (bits .and .u8 ((x : Int) / 2 ^ s) 1 == 1) = (x / 2 ^ s % 2 == 1) := by
  have e : (x : Int) / 2 ^ s = ((x / 2 ^ s : Nat) : Int) := by simp
  have h := and_one_fin ⟨x / 2 ^ s, Nat.lt_of_le_of_lt (Nat.div_le_self _ _) hx⟩
  dsimp only at h
  rw [e, h, Bool.eq_iff_iff]
  simp only [beq_iff_eq]
  omega
set_option maxRecDepth 10000 in
set_option maxHeartbeats 1000000 in
theorem PDigit_none (tot : Nat) (Ah : Option Addr) (nh ch : Nat) (Af : Option Addr) (nf cf d k R : Nat) (hd : 8 * nf ≤ d) (hd2 : d ≤ 1000000) (w : World) (hA : Av w R 80 (rdc tot Ah nh ch Af nf cf d k)) :
    Calls Tryd.prog 58 #[.pointer (some ⟨R, 0, none⟩)] w fun e w' => e = .returned (.tuple #[.bool false, .bool false]) ∧ w' = w := by
  unfold rdc at hA
  have c2 := hA.cell 2 _ rfl
  have c3 := hA.cell 3 _ rfl
  obtain ⟨q, hq⟩ : ∃ q, q = d / 8 := ⟨_, rfl⟩
  have e1 : (d : Int) / 8 = (q : Int) := by omega
  have t1 : decide ((nf : Int) ≤ (q : Int)) = true := by simp; omega
  replace hq := Lib.hid hq
  go_enter Tryd.func58, Tryd.ntmps58
  go_wp2
  go_ret2
  exact ⟨rfl, rfl⟩
set_option maxRecDepth 10000 in
set_option maxHeartbeats 1000000 in
theorem PDigit (fl : List UInt8) (b : Bool) (tot : Nat) (Ah : Option Addr) (nh ch : Nat) (Af : Option Addr) (nf cf d k R : Nat) (hnf : fl.length = nf) (hd : pDig fl d = some b) (hd2 : d ≤ 1000000) (w : World) (hA : Av w R 80 (rdc tot Ah nh ch Af nf cf d k)) (hr : Rd w Af (fl.map bv)) (hAf : ∀ a, Af = some a → a.block ≠ R) :
    Calls Tryd.prog 58 #[.pointer (some ⟨R, 0, none⟩)] w fun e w' => e = .returned (.tuple #[.bool b, .bool true]) ∧ Av w' R 80 (rdc tot Ah nh ch Af nf cf (d + 1) k) ∧ Fr (fun j => j = R) w w' := by
  unfold rdc at hA
  have c2 := hA.cell 2 _ rfl
  have c3 := hA.cell 3 _ rfl
  have f3 := frozen_of_row _ _ 3 _ _ hA
  have hlt := pDig_some hd
  rw [pDig_get hlt] at hd
  obtain rfl := Option.some.inj hd
  obtain ⟨q, hq⟩ : ∃ q, q = d / 8 := ⟨_, rfl⟩
  obtain ⟨s, hs⟩ : ∃ s, s = d % 8 := ⟨_, rfl⟩
  have e1 : (d : Int) / 8 = (q : Int) := by omega
  have e2 : (d : Int) % 8 = (s : Int) := by omega
  have t1 : decide ((nf : Int) ≤ (q : Int)) = false := by simp; omega
  have s0 : (0 : Int) ≤ (s : Int) := by omega
  have s8 : (s : Int) < 8 := by omega
  have hqn : q < nf := by omega
  rw [← hq, ← hs]
  obtain ⟨x, hx⟩ : ∃ x, x = fl.getD q 0 := ⟨_, rfl⟩
  have hg : fl[q]? = some x := by rw [hx, List.getD_eq_getElem?_getD, List.getElem?_eq_getElem (by omega)]; rfl
  rw [← hx]
  obtain ⟨bb, off, e⟩ := hr.someA (by intro h; have := congrArg List.length h; rw [List.length_map, hnf] at this; simp at this; omega)
  subst e
  have hbR : bb ≠ R := hAf _ rfl
  have hcell : ∀ w', Rd w' (some ⟨bb, off, none⟩) (fl.map bv) → w'.cell? ⟨bb, off + q, none⟩ = some (bv x) := by
    intro w' h
    rcases h with h | ⟨b', o', hA', hc⟩
    · have := congrArg List.length h; rw [List.length_map, hnf] at this; simp at this; omega
    · cases hA'
      exact hc q _ (by rw [List.getElem?_map, hg]; rfl)
  have fr1 := Fr.setCell w ⟨R, 3, none⟩ (.int .i64 ((d : Int) + 1))
  have cx := hcell _ (fr1.rd hr (fun a e => by cases e; exact hbR))
  have hA2 := hA.set 3 (.int .i64 ((d : Int) + 1))
  have c2' := hA2.cell 2 _ rfl
  clear hcell
  replace hA2 := Lib.hid hA2
  replace fr1 := Lib.hid fr1
  replace hq := Lib.hid hq
  replace hs := Lib.hid hs
  replace hx := Lib.hid hx
  replace hg := Lib.hid hg
  replace hnf := Lib.hid hnf
  have hxl := Cm.u8_lt x
  go_enter Tryd.func58, Tryd.ntmps58
  go_wp2
  go_ret2
  refine ⟨?_, hA2.out, fr1.out⟩
  rw [and_one_u8 _ _ hxl]
  rfl
set_option maxRecDepth 10000 in
set_option maxHeartbeats 1000000 in
theorem PHash_none (tot : Nat) (Ah : Option Addr) (nh ch : Nat) (Af : Option Addr) (nf cf d k R : Nat) (hd : nh ≤ k) (_ : k ≤ 1000000) (w : World) (hA : Av w R 80 (rdc tot Ah nh ch Af nf cf d k)) :
    Calls Tryd.prog 60 #[.pointer (some ⟨R, 0, none⟩)] w fun e w' => e = .returned (.tuple #[.agg (hcs (List.replicate 32 0)), .bool false]) ∧ Below w.heap.size w w' := by
  unfold rdc at hA
  have t1 : decide ((nh : Int) ≤ (k : Int)) = true := by simp; omega
  have hz := zeros_32
  obtain ⟨zs, hzs⟩ : ∃ zs : List UInt8, zs = List.replicate 32 0 := ⟨_, rfl⟩
  have hzl : (zs.map bv).length = 32 := by rw [hzs]; rfl
  rw [← hzs] at hz
  obtain ⟨W, hW⟩ : ∃ W, W = w.alloc (.cells (zs.map bv).toArray 28) := ⟨_, rfl⟩
  obtain ⟨H, hH⟩ : ∃ H, H = w.heap.size := ⟨_, rfl⟩
  have bW : Below w.heap.size w W := by rw [hW]; exact (Below.refl _ _).alloc (Nat.le_refl _) _
  have aH : Av W H 28 (zs.map bv) := by rw [hW, hH]; exact heap_alloc_new _ _
  have aR := hA.below bW
  have hone : (zs.map bv).all (·.oneCell') = true := List.all_eq_true.2 (bv_one zs)
  replace hone := Lib.hid hone
  replace hzl := Lib.hid hzl
  replace hW := Lib.hid hW
  replace hH := Lib.hid hH
  replace hzs := Lib.hid hzs
  go_enter Tryd.func60, Tryd.ntmps60
  go_upto_region 1 with fail
  rw [← hW.out, ← hH.out]
  refine wp_region_rel [] Ext (by kernel_rfl) (by kernel_rfl) (by kernel_rfl) Ext.refl Ext.trans (by intro p hp; cases hp) ?_
  refine relMove Ext.refl rfl rfl rfl rfl _ (.inl rfl) (by conv => lhs; whnf) (by simp only [List.set_cons_succ, List.set_cons_zero]; rfl) ?_
  refine relPure Ext.refl rfl rfl rfl rfl (fun w _ => by go_simp; first | done | rfl) (by simp only [List.set_cons_succ, List.set_cons_zero]; rfl) ?_
  refine relPure Ext.refl rfl rfl rfl rfl (fun w _ => by go_simp; first | done | rfl) (by simp only [List.set_cons_succ, List.set_cons_zero]; rfl) ?_
  refine relPure Ext.refl rfl rfl rfl rfl (c := .int .i64 (k : Int)) (fun w hw => by have := (aR.below hw.drew).cell 4 _ rfl; go_simp; first | done | rfl) (by simp only [List.set_cons_succ, List.set_cons_zero]; rfl) ?_
  refine relMove Ext.refl rfl rfl rfl rfl _ (.inl rfl) (by conv => lhs; whnf) (by simp only [List.set_cons_succ, List.set_cons_zero]; rfl) ?_
  refine relPure Ext.refl rfl rfl rfl rfl (fun w _ => by go_simp; first | done | rfl) (by simp only [List.set_cons_succ, List.set_cons_zero]; rfl) ?_
  refine relPure Ext.refl rfl rfl rfl rfl (fun w _ => by go_simp; first | done | rfl) (by simp only [List.set_cons_succ, List.set_cons_zero]; rfl) ?_
  refine relPure Ext.refl rfl rfl rfl rfl (fun w _ => by go_simp; first | done | rfl) (by simp only [List.set_cons_succ, List.set_cons_zero]; rfl) ?_
  refine relPure Ext.refl rfl rfl rfl rfl (c := .slice Ah nh ch) (fun w hw => by have := (aR.below hw.drew).cell 1 _ rfl; go_simp; first | done | rfl) (by simp only [List.set_cons_succ, List.set_cons_zero]; rfl) ?_
  refine relPure Ext.refl rfl rfl rfl rfl (fun w _ => by go_simp; first | done | rfl) (by simp only [List.set_cons_succ, List.set_cons_zero]; rfl) ?_
  refine relPure Ext.refl rfl rfl rfl rfl (fun w _ => by go_simp; first | done | rfl) (by simp only [List.set_cons_succ, List.set_cons_zero]; rfl) ?_
  refine relEnd fun w2 hw2 => fill_end ?_
  have bw2 := bW.trans (hw2.drew.mono bW.size)
  have a2 := aH.below hw2.drew
  have hge : w.heap.size ≤ H := by rw [hH.out]; exact Nat.le_refl _
  go_wp2_with (first
    | ((with_reducible refine wpList_build (.agg (zs.map bv).toArray) ?_ ?_); (go_simp; first | done | rfl))
    | ((with_reducible refine wpList_storeFA 28 bw2 a2 hge (zs.map bv) ?_ ?_ 32 hzl.out ?_ ?_ ?_ ?_); rfl; rfl; kernel_rfl; exact hzl.out; exact hone.out; intro w3 a3 b3 k3 z3))
  refine bodyPost_ret (v := .tuple #[.agg (hcs zs), .bool false]) ((results_cellU (C := zs.map bv) (by rfl) (by rfl) a3 _ Tryd.underlying28 rfl 32 hzl.out (by kernel_rfl)).trans (by rfl)) (by rfl) ?_
  rw [← hzs.out]
  exact ⟨rfl, b3⟩
set_option maxRecDepth 10000 in
set_option maxHeartbeats 4000000 in
theorem PHash (hs : List (List UInt8)) (h32 : All32 hs) (x : List UInt8) (tot : Nat) (Ah : Option Addr) (nh ch : Nat) (Af : Option Addr) (nf cf d k R : Nat) (hnh : hs.length = nh) (hx : hs[k]? = some x) (hd2 : k ≤ 1000000) (w : World) (hA : Av w R 80 (rdc tot Ah nh ch Af nf cf d k)) (hr : Rd w Ah (hcl hs)) (hAh : ∀ a, Ah = some a → a.block ≠ R) :
    Calls Tryd.prog 60 #[.pointer (some ⟨R, 0, none⟩)] w fun e w' => e = .returned (.tuple #[.agg (hcs x), .bool true]) ∧ Av w' R 80 (rdc tot Ah nh ch Af nf cf d (k + 1)) ∧ Fr (fun j => j = R) w w' := by
  obtain ⟨hkl, hxe⟩ := List.getElem?_eq_some_iff.1 hx
  have hx32 : x.length = 32 := h32 x (by rw [← hxe]; exact List.getElem_mem hkl)
  have hgd : hs.getD k [] = x := by rw [List.getD_eq_getElem?_getD, hx]; rfl
  have hkn : k < nh := by omega
  unfold rdc at hA
  have t1 : decide ((nh : Int) ≤ (k : Int)) = false := by simp; omega
  have hz := zeros_32
  obtain ⟨zs, hzs⟩ : ∃ zs : List UInt8, zs = List.replicate 32 0 := ⟨_, rfl⟩
  have hzl : (zs.map bv).length = 32 := by rw [hzs]; rfl
  rw [← hzs] at hz
  obtain ⟨W, hW⟩ : ∃ W, W = w.alloc (.cells (zs.map bv).toArray 28) := ⟨_, rfl⟩
  obtain ⟨H, hH⟩ : ∃ H, H = w.heap.size := ⟨_, rfl⟩
  have bW : Below w.heap.size w W := by rw [hW]; exact (Below.refl _ _).alloc (Nat.le_refl _) _
  have aH : Av W H 28 (zs.map bv) := by rw [hW, hH]; exact heap_alloc_new _ _
  have aR := hA.below bW
  have hone : (zs.map bv).all (·.oneCell') = true := List.all_eq_true.2 (bv_one zs)
  replace hone := Lib.hid hone
  replace hzl := Lib.hid hzl
  obtain ⟨bb, off, e⟩ := hr.someA (by intro h; have := congrArg List.length h; rw [hcl_length h32, hnh] at this; simp at this; omega)
  subst e
  have hbR : bb ≠ R := hAh _ rfl
  have hrg : ∀ w', Rd w' (some ⟨bb, off, none⟩) (hcl hs) → w'.rangeAt bb (off + k * 32) (x.map bv) := fun w' h => by have := h.hash h32 k hkl; rwa [hgd] at this
  have hbl : bb < w.heap.size := hr.lt (by intro h; have := congrArg List.length h; rw [hcl_length h32, hnh] at this; simp at this; omega) _ rfl
  have hRl : R < w.heap.size := hA.lt
  have hC1 : (x.map bv).all (·.oneCell') = true := List.all_eq_true.2 (bv_one x)
  have hC2 : (x.map bv).length = 32 := by rw [List.length_map, hx32]
  have hr0 := hr.below bW
  replace hxe := Lib.hid hxe
  replace hgd := Lib.hid hgd
  replace hx := Lib.hid hx
  replace hnh := Lib.hid hnh
  replace hW := Lib.hid hW
  replace hH := Lib.hid hH
  replace hzs := Lib.hid hzs
  replace hx32 := Lib.hid hx32
  replace hC1 := Lib.hid hC1
  replace hC2 := Lib.hid hC2
  replace hrg := Lib.hid hrg
  go_enter Tryd.func60, Tryd.ntmps60
  go_upto_region 1 with fail
  rw [← hW.out, ← hH.out]
  refine wp_region_rel [] Ext (by kernel_rfl) (by kernel_rfl) (by kernel_rfl) Ext.refl Ext.trans (by intro p hp; cases hp) ?_
  refine relMove Ext.refl rfl rfl rfl rfl _ (.inl rfl) (by conv => lhs; whnf) (by simp only [List.set_cons_succ, List.set_cons_zero]; rfl) ?_
  refine relPure Ext.refl rfl rfl rfl rfl (fun w _ => by go_simp; first | done | rfl) (by simp only [List.set_cons_succ, List.set_cons_zero]; rfl) ?_
  refine relPure Ext.refl rfl rfl rfl rfl (fun w _ => by go_simp; first | done | rfl) (by simp only [List.set_cons_succ, List.set_cons_zero]; rfl) ?_
  refine relPure Ext.refl rfl rfl rfl rfl (c := .int .i64 (k : Int)) (fun w hw => by have := (aR.below hw.drew).cell 4 _ rfl; go_simp; first | done | rfl) (by simp only [List.set_cons_succ, List.set_cons_zero]; rfl) ?_
  refine relMove Ext.refl rfl rfl rfl rfl _ (.inl rfl) (by conv => lhs; whnf) (by simp only [List.set_cons_succ, List.set_cons_zero]; rfl) ?_
  refine relPure Ext.refl rfl rfl rfl rfl (fun w _ => by go_simp; first | done | rfl) (by simp only [List.set_cons_succ, List.set_cons_zero]; rfl) ?_
  refine relPure Ext.refl rfl rfl rfl rfl (fun w _ => by go_simp; first | done | rfl) (by simp only [List.set_cons_succ, List.set_cons_zero]; rfl) ?_
  refine relPure Ext.refl rfl rfl rfl rfl (fun w _ => by go_simp; first | done | rfl) (by simp only [List.set_cons_succ, List.set_cons_zero]; rfl) ?_
  refine relPure Ext.refl rfl rfl rfl rfl (c := .slice (some ⟨bb, off, none⟩) nh ch) (fun w hw => by have := (aR.below hw.drew).cell 1 _ rfl; go_simp; first | done | rfl) (by simp only [List.set_cons_succ, List.set_cons_zero]; rfl) ?_
  refine relPure Ext.refl rfl rfl rfl rfl (fun w _ => by go_simp; first | done | rfl) (by simp only [List.set_cons_succ, List.set_cons_zero]; rfl) ?_
  refine relPure Ext.refl rfl rfl rfl rfl (fun w _ => by go_simp; first | done | rfl) (by simp only [List.set_cons_succ, List.set_cons_zero]; rfl) ?_
  refine relEnd fun w2 hw2 => fill_end ?_
  have bw2 := bW.trans (hw2.drew.mono bW.size)
  have a2 := aH.below hw2.drew
  have R2 := aR.below hw2.drew
  have r2 := hr0.below hw2.drew
  have c4 := R2.cell 4 _ rfl
  have f4 := frozen_of_row _ _ 4 _ _ R2
  have wk : IntKind.i64.wrap (k : Int) = (k : Int) := by rw [IntKind.wrap_i64]; omega
  replace wk := Lib.hid wk
  go_upto_region 4 with fail
  obtain ⟨w3, hw3⟩ : ∃ w3, w3 = w2.setCell ⟨R, 4, none⟩ (.int .i64 ((k : Int) + 1)) := ⟨_, rfl⟩
  have fr3 := Fr.setCell w2 ⟨R, 4, none⟩ (.int .i64 ((k : Int) + 1))
  have R3 := R2.set 4 (.int .i64 ((k : Int) + 1))
  have hHR : H ≠ R := by rw [hH.out]; omega
  have hHb : bb ≠ H := by rw [hH.out]; omega
  have a3 := fr3.av a2 hHR
  have r3 := fr3.rd r2 (fun a e => by cases e; exact hbR)
  rw [← hw3] at fr3 R3 a3 r3 ⊢
  replace hw3 := Lib.hid hw3
  clear c4 f4 a2 R2 r2
  refine wp_region_relG 13 [] [(12, fun w' => Av w' H 28 (x.map bv))] (RS H 28 (x.map bv)) (by kernel_rfl) (by kernel_rfl) (by kernel_rfl) (by kernel_rfl) (by kernel_rfl) (by kernel_rfl) (fun w => RS.refl w) RS.trans (by intro p hp; cases hp) (by
    intro p hp w w' hR h
    simp only [List.mem_singleton] at hp
    subst hp
    exact hR.2.1 h) ?_
  refine gel (fun w => RS.refl w) rfl (relMove (fun w => RS.refl w) rfl rfl rfl rfl _ (.inl rfl) (by conv => lhs; whnf) (by simp only [List.set_cons_succ, List.set_cons_zero]; rfl) (gend ?_))
  refine gel (fun w => RS.refl w) rfl (relPure (fun w => RS.refl w) rfl rfl rfl rfl (fun w _ => by go_simp; first | done | rfl) (by simp only [List.set_cons_succ, List.set_cons_zero]; rfl) (gend ?_))
  refine gel (fun w => RS.refl w) rfl (relPure (fun w => RS.refl w) rfl rfl rfl rfl (fun w _ => by go_simp; first | done | rfl) (by simp only [List.set_cons_succ, List.set_cons_zero]; rfl) (gend ?_))
  refine gel (fun w => RS.refl w) rfl (relPure (fun w => RS.refl w) rfl rfl rfl rfl (fun w _ => by go_simp; first | done | rfl) (by simp only [List.set_cons_succ, List.set_cons_zero]; rfl) (gend ?_))
  refine gel (fun w => RS.refl w) rfl (relPure (fun w => RS.refl w) rfl rfl rfl rfl (c := .slice (some ⟨bb, off, none⟩) nh ch) (fun w hw => by have := (hw.1.av R3.drew (Ne.symm hHR)).cell 1 _ rfl; go_simp; first | done | rfl) (by simp only [List.set_cons_succ, List.set_cons_zero]; rfl) (gend ?_))
  refine gel (fun w => RS.refl w) rfl (relMove (fun w => RS.refl w) rfl rfl rfl rfl _ (.inl rfl) (by conv => lhs; whnf) (by simp only [List.set_cons_succ, List.set_cons_zero]; rfl) (gend ?_))
  refine gel (fun w => RS.refl w) rfl (relPure (fun w => RS.refl w) rfl rfl rfl rfl (fun w _ => by go_simp; first | done | rfl) (by simp only [List.set_cons_succ, List.set_cons_zero]; rfl) (gend ?_))
  refine gel (fun w => RS.refl w) rfl (relPure (fun w => RS.refl w) rfl rfl rfl rfl (fun w _ => by go_simp; first | done | rfl) (by simp only [List.set_cons_succ, List.set_cons_zero]; rfl) (gend ?_))
  refine gel (fun w => RS.refl w) rfl (relPure (fun w => RS.refl w) rfl rfl rfl rfl (c := .int .i64 ((k : Int) + 1)) (fun w hw => by have := (hw.1.av R3.drew (Ne.symm hHR)).cell 4 _ rfl; go_simp; first | done | rfl) (by simp only [List.set_cons_succ, List.set_cons_zero]; rfl) (gend ?_))
  refine gel (fun w => RS.refl w) rfl (relPure (fun w => RS.refl w) rfl rfl rfl rfl (c := .int .i64 (k : Int)) (fun w _ => by have := wk.out; go_simp; first | done | rfl) (by simp only [List.set_cons_succ, List.set_cons_zero]; rfl) (gend ?_))
  refine gel (fun w => RS.refl w) rfl (relPure (fun w => RS.refl w) rfl rfl rfl rfl (c := .pointer (some ⟨bb, off + k * 32, none⟩)) (fun w _ => by go_simp; first | done | rfl) (by simp only [List.set_cons_succ, List.set_cons_zero]; rfl) (gend ?_))
  refine gel (fun w => RS.refl w) rfl (relPure (fun w => RS.refl w) rfl rfl rfl rfl (c := .agg (hcs x)) (fun w hw => exec_load_mid _ _ rfl bb (off + k * 32) rfl (x.map bv) _ (hrg.out _ ((Fr.ofDrew hw.1).rd r3 (fun a e => by cases e; exact hHb))) Tryd.underlying28 rfl (by rw [hC2.out]; kernel_rfl)) (by simp only [List.set_cons_succ, List.set_cons_zero]; rfl) (gend ?_))
  refine gStore rfl rfl (fun w hw => exec_storeAv (C := x.map bv) a3.drew (by rw [hC2.out, hzl.out]) hw _ _ _ rfl rfl rfl 32 hC2.out (by kernel_rfl) hC1.out 12) ?_
  refine relEndG fun w5 hw5 hg => ?_
  simp only [List.drop_succ_cons, List.drop_zero]
  have a5 := hg (12, fun w' => Av w' H 28 (x.map bv)) (List.mem_singleton.2 rfl)
  have f5 := Fr.ofDrew hw5.1
  have R5 := f5.av R3 (Ne.symm hHR)
  go_wp2
  refine bodyPost_ret (v := .tuple #[.agg (hcs x), .bool true]) ((results_cellU (C := x.map bv) (by rfl) (by rfl) a5 _ Tryd.underlying28 rfl 32 hC2.out (by kernel_rfl)).trans (by rfl)) (by rfl) ?_
  refine ⟨rfl, R5, ?_⟩
  exact Fr.transNew (Fr.transNew (Below.fr (S := fun j => j = R) bw2) fr3 (fun j h => .inl h)) f5 (fun j h => .inr (by rw [h, hH.out]; exact Nat.le_refl _))
end Go.Proofs.YtdkknincamkhpaaDoor
