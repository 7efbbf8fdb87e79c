/- Py; Pz; Pw; Tie2; Qy: put together for the claim. -/
import Derived.Test.YtdkknincamkhpaaDoorPr19
import Derived.Test.YtdkknincamkhpaaDoorCards
import Derived.Test.YtdkknincamkhpaaDoorTie
import Derived.Test.YtdkknincamkhpaaDoorPr1
import Derived.WalkKit
import Derived.ProofKit
import Derived.OpenShut
import Derived.ChangeOld
import Derived.Deep.DeepHandedRow
import Derived.Lib.LaidTab
import Derived.Stop.LaidErr
import Derived.Test.YtdkknincamkhpaaDoorQx
/- Parts of a tree: the plain laws of what is built and read. -/
namespace Go.Proofs.YtdkknincamkhpaaDoor
open Go.RowKit
/-- the hash of a node -/
def nH (ls : List (List (List UInt8))) (h i : Nat) : List UInt8 := (ls.getD h []).getD i []
/-- the matches below a node -/
def pMt (n : Nat) (ms : List Bool) (ls : List (List (List UInt8))) : Nat → Nat → List (Nat × List UInt8)
  | 0, i => if pHas n ms 0 i then [(i, nH ls 0 i)] else []
  | h + 1, i => if pHas n ms (h + 1) i then pMt n ms ls h (2 * i) ++ (if 2 * i + 1 < pWd n h then pMt n ms ls h (2 * i + 1) else []) else []
/-- no two that are paired, where it is gone to, are alike -/
def pOk (n : Nat) (ms : List Bool) (ls : List (List (List UInt8))) : Nat → Nat → Bool
  | 0, _ => true
  | h + 1, i => !pHas n ms (h + 1) i || (pOk n ms ls h (2 * i) && (!decide (2 * i + 1 < pWd n h) || (pOk n ms ls h (2 * i + 1) && nH ls h (2 * i) != nH ls h (2 * i + 1))))
/-- the levels that are paired up -/
def PLv (n : Nat) (ls : List (List (List UInt8))) (H : Nat) : Prop := ∀ h i, h + 1 ≤ H → i < pWd n (h + 1) → nH ls (h + 1) i = if 2 * i + 1 < pWd n h then pairB (nH ls h (2 * i)) (nH ls h (2 * i + 1)) else pairB (nH ls h (2 * i)) (nH ls h (2 * i))
end Go.Proofs.YtdkknincamkhpaaDoor
/- Parts of a tree: alike ones, counts, matches; what is extracted of what was built. -/
namespace Go.Proofs.YtdkknincamkhpaaDoor
open Go.RowKit
/-- how many leaves lie below a node -/
def pLc (n h i : Nat) : Nat := min ((i + 1) * 2 ^ h) n - i * 2 ^ h
def mtF (ms : List Bool) (ls : List (List (List UInt8))) (p : Nat) : Option (Nat × List UInt8) := if ms.getD p false then some (p, nH ls 0 p) else none
end Go.Proofs.YtdkknincamkhpaaDoor
/- Parts of a tree: what is extracted of what was built; of any part, what is extracted with one hash or byte more, or less. -/
namespace Go.Proofs.YtdkknincamkhpaaDoor
open Go.RowKit
/-- the matches, in order -/
def mts (n : Nat) (ms : List Bool) (hs : List (List UInt8)) : List (Nat × List UInt8) := (List.range n).filterMap fun p => if ms.getD p false then some (p, hs.getD p []) else none
/-! ### of any part -/
end Go.Proofs.YtdkknincamkhpaaDoor
/- The tables of SHA-256 out of what a row lists; a world for the witness. -/
namespace Go.Proofs.YtdkknincamkhpaaDoor
open Go.ChangeShapes Go.WideShapes Go.ChangeAt Go.RowKit

theorem gC : Tryd.prog.globalNamed "florin/sha2.constants" = some 1 := by kernel_rfl
theorem gI : Tryd.prog.globalNamed "florin/sha2.initials" = some 0 := by kernel_rfl
theorem gCt : (Tryd.prog.globals[1]?).map (·.type) = some 131 := by kernel_rfl
theorem gIt : (Tryd.prog.globals[0]?).map (·.type) = some 99 := by kernel_rfl
theorem cells64 : Tryd.prog.cellsOf 131 = 64 := by kernel_rfl
theorem cells8 : Tryd.prog.cellsOf 99 = 8 := by kernel_rfl
theorem cells32 : Tryd.prog.cellsOf 22 = 1 := by kernel_rfl
/-- what the rows list -/
def laidTabs : List (String × DataW Unit) := [("florin/sha2.constants", Rows.laid_florin_sha2_constants), ("florin/sha2.initials", Rows.laid_florin_sha2_initials)]
theorem tabs_of_laid {W : World} (h : laidMet Tryd.prog laidTabs W) : Tabs W := by
  have h1 : Lib.TabIs Tryd.prog W "florin/sha2.constants" .u32 (kTab.map fun (n : Nat) => (n : Int)) :=
    Lib.tabIs_of_head (rest := [("florin/sha2.initials", Rows.laid_florin_sha2_initials)]) gC gCt Tryd.underlying131 Tryd.underlying22 cells32 cells64 h
  have h2 : Lib.TabIs Tryd.prog W "florin/sha2.initials" .u32 (iTab.map fun (n : Nat) => (n : Int)) :=
    Lib.tabIs_of_head (rest := []) gI gIt Tryd.underlying99 Tryd.underlying22 cells32 cells8 (laidMet.tail h)
  have hk : ∀ i, i < 64 → kTab.getD i 0 < 4294967296 := by decide
  have hi : ∀ i, i < 8 → iTab.getD i 0 < 4294967296 := by decide
  refine ⟨fun i hlt => ?_, fun i hlt => ?_⟩
  · rw [h1.cell gC i (by simpa [kTab] using hlt), kAt, wc, wn_lit _ (hk i hlt)]
    congr 2
    simp [List.getD_eq_getElem?_getD]
    cases kTab[i]? <;> simp
  · rw [h2.cell gI i (by simpa [iTab] using hlt), iAt, wc, wn_lit _ (hi i hlt)]
    congr 2
    simp [List.getD_eq_getElem?_getD]
    cases iTab[i]? <;> simp

def layC : Obj → Obj
  | .cells _ t frozen => .cells (kTab.map fun (n : Nat) => Value.int .u32 (n : Int)).toArray t frozen
  | o => o
def layI : Obj → Obj
  | .cells _ t frozen => .cells (iTab.map fun (n : Nat) => Value.int .u32 (n : Int)).toArray t frozen
  | o => o
/-- A world for the witness: the settled one, the tables holding what their initialisers lay. -/
noncomputable def tabWorld (os : Os) : World :=
  { World.holding Tryd.prog os ⟨#[], #[], []⟩ with heap := ((World.holding Tryd.prog os ⟨#[], #[], []⟩).heap.modify 1 layC).modify 0 layI }
end Go.Proofs.YtdkknincamkhpaaDoor
/- florinlaw12.awake, tree, few; hash.Witness. -/
namespace Go.Proofs.YtdkknincamkhpaaDoor
open Go.RowKit
attribute [local go_sem high] slB_lh slB_l slB_h
def a12 : List UInt8 := 1 :: List.replicate 31 0
def b12 : List UInt8 := 2 :: List.replicate 31 0
theorem aw12_1 : pBhs [a12, b12] [false, true] = [a12, b12] := by decide +kernel
theorem aw12_2 : pBfl 2 [false, true] = [5] := by decide +kernel
theorem aw12_3 : qFnd 2 [a12, b12] [5] 1 = some (pairB a12 b12, b12) := by decide +kernel
theorem aw12_4 : qPath 2 [a12, b12] [5] 1 = [a12] := by decide +kernel
theorem wpList_buildH2 {x y : List UInt8} (hx : x.length = 32) (hy : y.length = 32) {ops : Array Oper} {rest : List Oper} {a : Act} {w : World} {Q : Exit → Act → World → Prop} {d tp pos af} {y0 y1 : Operand} (h0 : a.eval y0 = .agg (hcs x)) (h1 : a.eval y1 = .agg (hcs y))
    (k : wpList Tryd.prog ops Q rest (a.put d (.slice (some ⟨w.heap.size, 0, none⟩) 2 2)) (w.alloc (.cells (hcl [x, y]).toArray 28))) : wpList Tryd.prog ops Q (⟨d, .buildSlice 23 2 #[(0, y0), (1, y1)], tp, pos, af, none⟩ :: rest) a w := by
  refine wpList_execW rfl (v := .slice (some ⟨w.heap.size, 0, none⟩) 2 2) ?_ k
  have h32 : All32 [x, y] := fun z hz => by
    rcases List.mem_cons.1 hz with rfl | hz
    · exact hx
    · rw [List.mem_singleton.1 hz]; exact hy
  have := run_buildH w [x, y] h32 2 rfl (by omega) (by omega) #[(0, .agg (hcs x)), (1, .agg (hcs y))] rfl
  unfold execOp
  simp only [Sem.run_bind, List.map_toArray, List.map_cons, List.map_nil, h0, h1, this, Result.andThen_ok]
  rfl
set_option maxRecDepth 100000 in
set_option maxHeartbeats 16000000 in
theorem awake12 (w : World) (hT : Tabs w) : Calls Tryd.prog 9 #[] w fun e w' => e = .returned (.bool true) ∧ Below w.heap.size w w' := by
  have f1 := aw12_1
  have f2 := aw12_2
  have f3 := aw12_3
  have f4 := aw12_4
  have a0 : a12.length = 32 := rfl
  have b0 : b12.length = 32 := rfl
  have hb1 : ∀ (v : Act) (w' : World) d tp pos af, (execOp v.eval ⟨d, .build 28 #[(0, .const (.int .u8 1))], tp, pos, af, none⟩).run Tryd.prog w' = .ok (.value (.agg (a12.map bv).toArray)) w' := fun v w' d tp pos af => by kernel_rfl
  have hb2 : ∀ (v : Act) (w' : World) d tp pos af, (execOp v.eval ⟨d, .build 28 #[(0, .const (.int .u8 2))], tp, pos, af, none⟩).run Tryd.prog w' = .ok (.value (.agg (b12.map bv).toArray)) w' := fun v w' d tp pos af => by kernel_rfl
  generalize a12 = a at *
  generalize b12 = b at *
  have h32 : All32 [a, b] := fun z hz => by
    rcases List.mem_cons.1 hz with rfl | hz
    · exact a0
    · rw [List.mem_singleton.1 hz]; exact b0
  have HB := fun A Am c cm w' r r2 t => PBuild [a, b] h32 [false, true] A Am 2 c 2 cm rfl rfl (by omega) (by omega) w' r r2 t
  unfold BdPost at HB
  rw [f1] at HB
  simp only [List.length_cons, List.length_nil, Nat.zero_add, Nat.reduceAdd, f2] at HB
  simp only [show ¬ (2 = 0 ∨ 4096 < 2) by omega, if_false] at HB
  have HP := fun Ah ch Af cf w' r r2 t => PPath [5] [a, b] h32 2 Ah 2 ch Af 1 cf rfl rfl (by omega) (by omega) (by omega) 1 w' r r2 t
  unfold PathPost at HP
  rw [f3] at HP
  simp only [Option.map_some, f4, List.length_cons, List.length_nil, Nat.zero_add] at HP
  have HC := fun Ah ch Af cf w' r r2 t => PClash [5] [a, b] h32 2 Ah 2 ch Af 1 cf rfl rfl (by omega) (by omega) (by omega) [5] [a, b] h32 2 Ah 2 ch Af 1 cf rfl rfl (by omega) (by omega) (by omega) 1 w' r r2 r r2 t
  have hcn : qClash 2 [a, b] [5] 2 [a, b] [5] 1 = none := by
    unfold qClash
    rw [f3, Option.bind_some, Option.bind_some, if_neg (fun h => h.2.2 rfl)]
  unfold ClashPost at HC
  rw [hcn] at HC
  dsimp only at HC
  have pl := pairB_length a b
  have HK := fun Ah ch Af cf w' r r2 t => PCheck [5] [a, b] h32 2 Ah 2 ch Af 1 cf rfl rfl (by omega) (by omega) (by omega) (pairB a b) b pl b0 1 w' r r2 t
  have hkt : qCheck 2 [a, b] [5] (pairB a b) 1 b = true := by
    unfold qCheck
    rw [f3]
    simp
  rw [hkt] at HK
  have HR := fun w' t => Pair a b a0 b0 w' t
  have HS := fun A c w' r t => PSteps b b0 [a] (All32.one a0) 1 1 rfl (by omega) A 1 c rfl (by omega) w' r t
  have hsl : (qSt b [a] 1).length = 1 := by rw [qSt_length]; rfl
  obtain ⟨K, hK⟩ : ∃ K, K = qSt b [a] 1 := ⟨_, rfl⟩
  obtain ⟨r, hr⟩ : ∃ r, r = pairB a b := ⟨_, rfl⟩
  rw [← hK] at HS hsl
  rw [← hr] at HK HR pl
  unfold StepsPost at HS
  simp only [hsl] at HS
  have EQ := fun p q w => eqlHw a a a0 a0 p q w
  rw [show (a == a) = true by simp] at EQ
  have av32 : (a.map bv).length = 32 := by rw [List.length_map, a0]
  have bv32 : (b.map bv).length = 32 := by rw [List.length_map, b0]
  have aone : (a.map bv).all (·.oneCell') = true := List.all_eq_true.2 (bv_one a)
  have bone : (b.map bv).all (·.oneCell') = true := List.all_eq_true.2 (bv_one b)
  clear f1 f2 f3 f4 hcn hkt
  replace HB := Lib.hid HB
  replace HP := Lib.hid HP
  replace HC := Lib.hid HC
  replace HK := Lib.hid HK
  replace HR := Lib.hid HR
  replace HS := Lib.hid HS
  replace hsl := Lib.hid hsl
  replace hK := Lib.hid hK
  replace hr := Lib.hid hr
  replace pl := Lib.hid pl
  replace a0 := Lib.hid a0
  replace b0 := Lib.hid b0
  replace av32 := Lib.hid av32
  replace bv32 := Lib.hid bv32
  replace aone := Lib.hid aone
  replace bone := Lib.hid bone
  replace hb1 := Lib.hid hb1
  replace hb2 := Lib.hid hb2
  replace EQ := Lib.hid EQ
  go_enter Tryd.func9, Tryd.ntmps9
  go_upto_region 2 with (first
    | ((with_reducible refine wpList_bld (.agg (a.map bv).toArray) ?_ ?_); exact hb1.out _ _ _ _ _ _)
    | ((with_reducible refine wpList_storeF 28 ((Below.refl w.heap.size w).alloc (Nat.le_refl _) _) (heap_alloc_new _ _) (Nat.le_refl _) (a.map bv) ?_ ?_ 32 av32.out ?_ ?_ ?_ ?_); rfl; rfl; kernel_rfl; rfl; exact aone.out; intro w1 a1 b1 k1 z1; clear k1 z1))
  obtain ⟨X, hX⟩ : ∃ X, X = w.heap.size := ⟨_, rfl⟩
  rw [← hX] at a1 ⊢
  replace hX := Lib.hid hX
  go_upto_region 3 with (first
    | ((with_reducible refine wpList_bld (.agg (b.map bv).toArray) ?_ ?_); exact hb2.out _ _ _ _ _ _)
    | ((with_reducible refine wpList_storeF 28 ((Below.refl w1.heap.size w1).alloc (Nat.le_refl _) _) (heap_alloc_new _ _) (Nat.le_refl _) (b.map bv) ?_ ?_ 32 bv32.out ?_ ?_ ?_ ?_); rfl; rfl; kernel_rfl; rfl; exact bone.out; intro w2 a2 b2 k2 z2; clear k2 z2))
  obtain ⟨Y, hY⟩ : ∃ Y, Y = w1.heap.size := ⟨_, rfl⟩
  rw [← hY] at a2 ⊢
  replace hY := Lib.hid hY
  have a12 := a1.below b2
  have bw2 := b1.trans (b2.mono b1.size)
  obtain ⟨w3, hw3⟩ : ∃ w3, w3 = (w2.alloc (Obj.cells (hcl [a, b]).toArray 28)).alloc (Obj.cells #[Value.bool false, Value.bool true] 4) := ⟨_, rfl⟩
  have b23 : Below w2.heap.size w2 w3 := by rw [hw3]; exact ((Below.refl _ _).alloc (Nat.le_refl _) _).alloc (by simp) _
  have rA : Rd w3 (some ⟨w2.heap.size, 0, none⟩) (hcl [a, b]) := by rw [hw3]; exact (Av.newer w2 (hcl [a, b]) _ _).rd
  have rM : Rd w3 (some ⟨w2.heap.size + 1, 0, none⟩) ([false, true].map Value.bool) := by
    rw [hw3, ← World.size_alloc w2 (Obj.cells (hcl [a, b]).toArray 28)]
    exact (Av.new _ [Value.bool false, Value.bool true] _).rd
  have bw3 := bw2.trans (b23.mono bw2.size)
  have a13 := a12.below b23
  have a23 := a2.below b23
  have HB2 := HB.out (some ⟨w2.heap.size, 0, none⟩) (some ⟨w2.heap.size + 1, 0, none⟩) 2 2 w3 rA rM (hT.below bw3)
  replace HB2 := Lib.hid HB2
  replace hw3 := Lib.hid hw3
  clear b1 b2 b23 rA rM HB a1 bw2
  go_upto_region 4 with (first
    | ((with_reducible refine wpList_loadF 28 a12 ?_ _ 32 av32.out Tryd.underlying28 ?_ ?_ ?_); rfl; rfl; kernel_rfl)
    | ((with_reducible refine wpList_loadF 28 a2 ?_ _ 32 bv32.out Tryd.underlying28 ?_ ?_ ?_); rfl; rfl; kernel_rfl)
    | ((with_reducible refine wpList_buildH2 a0.out b0.out ?_ ?_ ?_); rfl; rfl)
    | (go_at_call 28; rw [← hw3.out]; refine (HB2.out).mono ?_; rintro e w4 ⟨b4, Ah, ch, Af, cf, rfl, hch, hcf, rh4, rf4, gh, gf⟩)
    | ((with_reducible refine wpList_storeF 33 ((Below.refl w4.heap.size w4).alloc (Nat.le_refl _) _) (heap_alloc_new _ _) (Nat.le_refl _) (trc 2 Ah 2 ch Af 1 cf) ?_ ?_ 3 rfl ?_ ?_ ?_ ?_); rfl; rfl; kernel_rfl; rfl; rfl; intro w5 aT b5 k5 z5; clear k5 z5))
  obtain ⟨T, hT0⟩ : ∃ T, T = w4.heap.size := ⟨_, rfl⟩
  rw [← hT0] at aT ⊢
  replace hT0 := Lib.hid hT0
  have b45 := b4.trans (b5.mono b4.size)
  have bw5 := bw3.trans (b45.mono bw3.size)
  have rh5 := rh4.below b5
  have rf5 := rf4.below b5
  have a15 := a13.below b45
  have a25 := a23.below b45
  have HP2 := HP.out Ah ch Af cf w5 rh5 rf5 (hT.below bw5)
  replace HP2 := Lib.hid HP2
  clear b4 b5 b45 rh4 rf4 a13 a23 bw3 HB2 HP a12 a2 gh gf
  go_upto_region 5 with (first
    | ((with_reducible refine wpList_loadF 33 aT ?_ _ 3 ?_ Tryd.underlying33 ?_ ?_ ?_); rfl; rfl; rfl; kernel_rfl)
    | (go_at_call 11; refine (HP2.out).mono ?_; rintro e w6 ⟨b6, A6, c6, rfl, hc6, hA6, rd6⟩))
  have bw6 := bw5.trans (b6.mono bw5.size)
  have rh6 := rh5.below b6
  have rf6 := rf5.below b6
  have HC2 := HC.out Ah ch Af cf w6 rh6 rf6 (hT.below bw6)
  have aT6 := aT.below b6
  have a16 := a15.below b6
  have a26 := a25.below b6
  replace HC2 := Lib.hid HC2
  replace hA6 := Lib.hid hA6
  clear b6 HP2 aT a15 a25 rh5 rf5 HC bw5
  have aT := aT6
  clear aT6
  go_upto_region 6 with (first
    | ((with_reducible refine wpList_loadF 33 aT ?_ _ 3 ?_ Tryd.underlying33 ?_ ?_ ?_); rfl; rfl; rfl; kernel_rfl)
    | (go_at_call 14; refine (HC2.out).mono ?_; rintro e w7 ⟨b7, rfl⟩))
  have bw7 := bw6.trans (b7.mono bw6.size)
  have rh7 := rh6.below b7
  have rf7 := rf6.below b7
  have aT7 := aT.below b7
  have a17 := a16.below b7
  have a27 := a26.below b7
  have rd7 := rd6.below b7
  rw [hcl_one] at rd7
  obtain ⟨bb, oo, rfl⟩ := rd7.someA (by intro e; have := congrArg List.length e; rw [av32.out] at this; cases this)
  have hrg : ∀ w', Rd w' (some ⟨bb, oo, none⟩) (a.map bv) → w'.rangeAt bb oo (a.map bv) := fun w' h j u hu => by
    rcases h with h | ⟨b', o', hA', hc⟩
    · rw [h] at hu; cases hu
    · cases hA'; exact hc j u hu
  replace hrg := Lib.hid hrg
  clear b7 HC2 aT a16 a26 rh6 rf6 rd6 bw6
  refine wp_region_rel [(28, StW 1 K)] Ext (by kernel_rfl) (by kernel_rfl) (by kernel_rfl) Ext.refl Ext.trans (by intro p hp v w w' hR; simp only [List.mem_singleton] at hp; subst hp; exact StW.mono hR) ?_
  refine relMove Ext.refl rfl rfl rfl rfl _ (.inl rfl) (by conv => lhs; whnf) (by simp only [List.set_cons_succ, List.set_cons_zero]; rfl) ?_
  refine relMove Ext.refl rfl rfl rfl rfl _ (.inl rfl) (by conv => lhs; whnf) (by simp only [List.set_cons_succ, List.set_cons_zero]; rfl) ?_
  refine relMove Ext.refl rfl rfl rfl rfl _ (.inl rfl) (by conv => lhs; whnf) (by simp only [List.set_cons_succ, List.set_cons_zero]; rfl) ?_
  refine relPure Ext.refl rfl rfl rfl rfl (c := .int .i64 1) (fun w _ => by go_simp; first | done | rfl) (by simp only [List.set_cons_succ, List.set_cons_zero]; rfl) ?_
  refine relPure Ext.refl rfl rfl rfl rfl (c := .bool true) (fun w _ => by go_simp; first | done | rfl) (by simp only [List.set_cons_succ, List.set_cons_zero]; rfl) ?_
  refine relPick Ext.refl rfl rfl rfl rfl _ _ _ rfl rfl (by conv => lhs; whnf) (by simp only [List.set_cons_succ, List.set_cons_zero]; rfl) ?_
  refine relMove Ext.refl rfl rfl rfl rfl _ (.inl rfl) (by conv => lhs; whnf) (by simp only [List.set_cons_succ, List.set_cons_zero]; rfl) ?_
  refine relMove Ext.refl rfl rfl rfl rfl _ (.inl rfl) (by conv => lhs; whnf) (by simp only [List.set_cons_succ, List.set_cons_zero]; rfl) ?_
  refine relPure Ext.refl rfl rfl rfl rfl (c := .pointer (some ⟨bb, oo, none⟩)) (fun w _ => by go_simp; first | done | rfl) (by simp only [List.set_cons_succ, List.set_cons_zero]; rfl) ?_
  refine relPure Ext.refl rfl rfl rfl rfl (c := .agg (hcs a)) (fun w hw => exec_load_mid _ _ rfl bb oo rfl (a.map bv) _ (hrg.out _ (rd7.below hw.drew)) Tryd.underlying28 rfl (by rw [av32.out]; kernel_rfl)) (by simp only [List.set_cons_succ, List.set_cons_zero]; rfl) ?_
  refine relPure Ext.refl rfl rfl rfl rfl (c := .agg (hcs a)) (fun w hw => exec_loadAv (a17.below hw.drew) _ _ rfl rfl _ 32 av32.out Tryd.underlying28 rfl (by kernel_rfl)) (by simp only [List.set_cons_succ, List.set_cons_zero]; rfl) ?_
  refine relBin Ext.refl rfl rfl rfl rfl _ _ _ _ _ rfl (by conv => lhs; whnf) (by conv => lhs; whnf) (c := .bool true) (fun w => EQ.out _ _ w) (by simp only [List.set_cons_succ, List.set_cons_zero]; rfl) ?_
  refine relPick Ext.refl rfl rfl rfl rfl _ _ _ rfl rfl (by conv => lhs; whnf) (by simp only [List.set_cons_succ, List.set_cons_zero]; rfl) ?_
  refine relMove Ext.refl rfl rfl rfl rfl _ (.inl rfl) (by conv => lhs; whnf) (by simp only [List.set_cons_succ, List.set_cons_zero]; rfl) ?_
  refine relPure Ext.refl rfl rfl rfl rfl (c := .agg (trc 2 Ah 2 ch Af 1 cf).toArray) (fun w hw => exec_loadAv (aT7.below hw.drew) _ _ rfl rfl _ 3 rfl Tryd.underlying33 rfl (by kernel_rfl)) (by simp only [List.set_cons_succ, List.set_cons_zero]; rfl) ?_
  refine relPure Ext.refl rfl rfl rfl rfl (c := .agg (hcs a)) (fun w hw => exec_loadAv (a17.below hw.drew) _ _ rfl rfl _ 32 av32.out Tryd.underlying28 rfl (by kernel_rfl)) (by simp only [List.set_cons_succ, List.set_cons_zero]; rfl) ?_
  refine relPure Ext.refl rfl rfl rfl rfl (c := .agg (hcs b)) (fun w hw => exec_loadAv (a27.below hw.drew) _ _ rfl rfl _ 32 bv32.out Tryd.underlying28 rfl (by kernel_rfl)) (by simp only [List.set_cons_succ, List.set_cons_zero]; rfl) ?_
  refine relCall1 rfl rfl rfl rfl (c := .agg (hcs r)) 30 #[.agg (hcs a), .agg (hcs b)] (fun w => by go_simp) (fun w hw => (HR.out w (hT.below (bw7.trans (hw.drew.mono bw7.size)))).mono ?_) (by simp only [List.set_cons_succ, List.set_cons_zero]; rfl) ?_
  · rintro e w' ⟨rfl, b⟩
    exact ⟨rfl, b⟩
  refine relPure Ext.refl rfl rfl rfl rfl (c := .agg (hcs b)) (fun w hw => exec_loadAv (a27.below hw.drew) _ _ rfl rfl _ 32 bv32.out Tryd.underlying28 rfl (by kernel_rfl)) (by simp only [List.set_cons_succ, List.set_cons_zero]; rfl) ?_
  refine relCall1 rfl rfl rfl rfl (c := .bool true) 17 #[.agg (trc 2 Ah 2 ch Af 1 cf).toArray, .agg (hcs r), .int .i64 1, .agg (hcs b)] (fun w => by go_simp) (fun w hw => (HK.out Ah ch Af cf w (rh7.below hw.drew) (rf7.below hw.drew) (hT.below (bw7.trans (hw.drew.mono bw7.size)))).mono ?_) (by simp only [List.set_cons_succ, List.set_cons_zero]; rfl) ?_
  · rintro e w' ⟨rfl, b⟩
    exact ⟨rfl, b⟩
  refine relPick Ext.refl rfl rfl rfl rfl _ _ _ rfl rfl (by conv => lhs; whnf) (by simp only [List.set_cons_succ, List.set_cons_zero]; rfl) ?_
  refine relMove Ext.refl rfl rfl rfl rfl _ (.inl rfl) (by conv => lhs; whnf) (by simp only [List.set_cons_succ, List.set_cons_zero]; rfl) ?_
  refine relMove Ext.refl rfl rfl rfl rfl _ (.inl rfl) (by conv => lhs; whnf) (by simp only [List.set_cons_succ, List.set_cons_zero]; rfl) ?_
  refine relPure Ext.refl rfl rfl rfl rfl (c := .bool true) (fun w _ => by go_simp; first | done | rfl) (by simp only [List.set_cons_succ, List.set_cons_zero]; rfl) ?_
  refine relPick Ext.refl rfl rfl rfl rfl _ _ _ rfl rfl (by conv => lhs; whnf) (by simp only [List.set_cons_succ, List.set_cons_zero]; rfl) ?_
  refine relMove Ext.refl rfl rfl rfl rfl _ (.inl rfl) (by conv => lhs; whnf) (by simp only [List.set_cons_succ, List.set_cons_zero]; rfl) ?_
  refine relPure Ext.refl rfl rfl rfl rfl (c := .agg (hcs b)) (fun w hw => exec_loadAv (a27.below hw.drew) _ _ rfl rfl _ 32 bv32.out Tryd.underlying28 rfl (by kernel_rfl)) (by simp only [List.set_cons_succ, List.set_cons_zero]; rfl) ?_
  refine relMove Ext.refl rfl rfl rfl rfl _ (.inl rfl) (by conv => lhs; whnf) (by simp only [List.set_cons_succ, List.set_cons_zero]; rfl) ?_
  refine relCall _ rfl rfl rfl 20 #[.agg (hcs b), .slice (some ⟨bb, oo, none⟩) 1 c6, .int .i64 1] (fun w => by go_simp) (fun w hw => (HS.out (some ⟨bb, oo, none⟩) c6 w (by rw [hcl_one]; exact rd7.below hw.drew) (hT.below (bw7.trans (hw.drew.mono bw7.size)))).mono ?_) ?_
  · rintro e w' ⟨b, A, c, gs, rfl, _, _, _, hrd, hst⟩
    exact ⟨_, rfl, b, A, c, gs, rfl, hrd, hst⟩
  refine relOn rfl rfl (c := .int .i64 1) (fun w hw => fill_take rfl rfl fun u hu => fill_none rfl (relOp_yes rfl ?_)) (by simp only [List.set_cons_succ, List.set_cons_zero]; rfl) ?_
  · obtain ⟨A, c, gs, rfl, _, _⟩ := hu
    go_simp
    exact ⟨Ext.refl _, rfl⟩
  refine relPure Ext.refl rfl rfl rfl rfl (c := .bool true) (fun w _ => by go_simp; first | done | rfl) (by simp only [List.set_cons_succ, List.set_cons_zero]; rfl) ?_
  refine relPick Ext.refl rfl rfl rfl rfl _ _ _ rfl rfl (by conv => lhs; whnf) (by simp only [List.set_cons_succ, List.set_cons_zero]; rfl) ?_
  refine relMove Ext.refl rfl rfl rfl rfl _ (.inr rfl) (by conv => lhs; whnf) (by simp only [List.set_cons_zero]; rfl) ?_
  refine relEnd fun w8 hw8 => fill_take rfl rfl fun v hv => fill_end ?_
  obtain ⟨_, _, _, rfl, -, -⟩ := hv
  simp only [List.set_cons_succ, List.set_cons_zero]
  have bw8 := bw7.trans (hw8.drew.mono bw7.size)
  go_wp2
  go_ret
  exact ⟨rfl, bw8⟩
set_option maxRecDepth 100000 in
set_option maxHeartbeats 4000000 in
theorem PTree (tot : Nat) (Ah : Option Addr) (nh ch : Nat) (Af : Option Addr) (nf cf : Nat) (w : World) : Calls Tryd.prog 12 #[.agg (trc tot Ah nh ch Af nf cf).toArray] w fun e w' => e = .returned (.agg (trc tot Ah nh ch Af nf cf).toArray) ∧ Below w.heap.size w w' := by
  obtain ⟨W, hW⟩ : ∃ W, W = (w.alloc (.cells (trc tot Ah nh ch Af nf cf).toArray 26)).alloc (.cells (trc 0 none 0 0 none 0 0).toArray 33) := ⟨_, rfl⟩
  obtain ⟨H, hH⟩ : ∃ H, H = w.heap.size := ⟨_, rfl⟩
  have bW : Below w.heap.size w W := by rw [hW]; exact ((Below.refl _ _).alloc (Nat.le_refl _) _).alloc (by simp) _
  have aN : Av W H 26 (trc tot Ah nh ch Af nf cf) := by rw [hW, hH]; exact Av.newer w (trc tot Ah nh ch Af nf cf) _ _
  have aR : Av W (H + 1) 33 (trc 0 none 0 0 none 0 0) := by rw [hW, hH, ← World.size_alloc w (.cells (trc tot Ah nh ch Af nf cf).toArray 26)]; exact Av.new _ _ _
  have c0 := aN.cell 0 _ rfl
  have c1 := aN.cell 1 _ rfl
  have c2 := aN.cell 2 _ rfl
  have hge : w.heap.size ≤ H + 1 := by rw [hH]; omega
  replace hW := Lib.hid hW
  replace hH := Lib.hid hH
  go_enter Tryd.func12, Tryd.ntmps12
  go_upto_region 1 with fail
  rw [← hH.out]
  rw [show (w.alloc (.cells (trc tot Ah nh ch Af nf cf).toArray 26)).alloc (.cells #[Value.int .u32 0, .slice none 0 0, .slice none 0 0] 33) = W from hW.out.symm]
  go_wp2_with (first
    | ((with_reducible refine wpList_bld (.agg (trc tot Ah nh ch Af nf cf).toArray) ?_ ?_); kernel_rfl)
    | ((with_reducible refine wpList_storeFA 33 bW aR hge (trc tot Ah nh ch Af nf cf) ?_ ?_ 3 rfl ?_ ?_ ?_ ?_); rfl; rfl; kernel_rfl; rfl; rfl; intro w3 a3 b3 k3 z3))
  refine bodyPost_ret (results_cell_row rfl _ _ (H + 1) _ _ (0, 0) _ (by rfl) a3 Tryd.underlying33 rfl (by kernel_rfl)) rfl ⟨rfl, b3⟩
set_option maxRecDepth 100000 in
set_option maxHeartbeats 4000000 in
theorem PFew (b : Bool) (tot : Nat) (Ah : Option Addr) (nh ch : Nat) (Af : Option Addr) (nf cf : Nat) (hb : b = decide (nh ≤ 60 ∧ nf ≤ 60)) (w : World) : Calls Tryd.prog 10 #[.agg (trc tot Ah nh ch Af nf cf).toArray] w fun e w' => e = .returned (.bool b) ∧ Below w.heap.size w w' := by
  obtain ⟨W, hW⟩ : ∃ W, W = w.alloc (.cells (trc tot Ah nh ch Af nf cf).toArray 26) := ⟨_, rfl⟩
  obtain ⟨H, hH⟩ : ∃ H, H = w.heap.size := ⟨_, rfl⟩
  have bW : Below w.heap.size w W := by rw [hW]; exact (Below.refl _ _).alloc (Nat.le_refl _) _
  have aN : Av W H 26 (trc tot Ah nh ch Af nf cf) := by rw [hW, hH]; exact Av.new _ _ _
  have c1 := aN.cell 1 _ rfl
  have c2 := aN.cell 2 _ rfl
  replace hW := Lib.hid hW
  replace hH := Lib.hid hH
  have q : ((decide ((nh : Int) ≤ 60) = true ∧ decide (nh ≤ 60) = true) ∧ ((decide ((nf : Int) ≤ 60) = true ∧ decide (nf ≤ 60) = true ∧ b = true) ∨ (decide ((nf : Int) ≤ 60) = false ∧ decide (nf ≤ 60) = false ∧ b = false))) ∨ (decide ((nh : Int) ≤ 60) = false ∧ decide (nh ≤ 60) = false ∧ b = false) := by
    by_cases h1 : nh ≤ 60
    · by_cases h2 : nf ≤ 60
      · exact .inl ⟨⟨by simp; omega, by simp; omega⟩, .inl ⟨by simp; omega, by simp; omega, by rw [hb]; simp; omega⟩⟩
      · exact .inl ⟨⟨by simp; omega, by simp; omega⟩, .inr ⟨by simp; omega, by simp; omega, by rw [hb]; simp; omega⟩⟩
    · exact .inr ⟨by simp; omega, by simp; omega, by rw [hb]; simp; omega⟩
  clear hb
  rcases q with ⟨⟨p1, p2⟩, ⟨p3, p4, rfl⟩ | ⟨p3, p4, rfl⟩⟩ | ⟨p1, p2, rfl⟩ <;>
  · go_enter Tryd.func10, Tryd.ntmps10
    go_upto_region 1 with fail
    rw [← hH.out]
    rw [show w.alloc (.cells (trc tot Ah nh ch Af nf cf).toArray 26) = W from hW.out.symm]
    go_wp2
    go_ret
    exact ⟨rfl, bW⟩
end Go.Proofs.YtdkknincamkhpaaDoor
