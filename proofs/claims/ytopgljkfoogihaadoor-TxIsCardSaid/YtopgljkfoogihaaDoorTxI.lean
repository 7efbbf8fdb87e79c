/- tx.Id, and the law TxIds: the walks. -/
import Derived.Test.YtopgljkfoogihaaDoorPr6
import Derived.Test.YtopgljkfoogihaaDoorTxE
import Derived.Test.YtopgljkfoogihaaDoorTxF
import Derived.Test.YtopgljkfoogihaaDoorTxLb
import Derived.Test.YtopgljkfoogihaaDoorShD
namespace Go.Proofs.YtopgljkfoogihaaDoor
open Go.RowKit
attribute [local go_sem high] slB_lh slB_l slB_h
theorem results_cellAv1 {fn : Func} {p u : Tmp} {ty : TypeId} (h : fn.results = #[.cell p ty, .tmp u]) {tmps : Array Value} {P : Program} {w : World} {g : Nat} {t : TypeId} {C : List Value} (hp : tmps.getD p undef = .pointer (some ⟨g, 0, none⟩)) (ha : Av w g t C) (d : TypeDesc) (hu : P.underlying ty = some d) (hd : d.isRow = true)
    (n : Nat) (hn : C.length = n) (hi : (P.info? ty).map (·.size) = some n) :
    (results fn tmps).run P w = .ok (.tuple #[.agg C.toArray, tmps.getD u undef]) w := by
  rw [results_cell_tmp h, hp]
  simp only [asAddr, Sem.run_pure, Result.andThen_ok, run_loadVar_row w g t ty _ _ d ha hu (by cases d <;> first | rfl | (simp [TypeDesc.isRow] at hd)) (by rw [List.size_toArray, hn]; exact hi)]
/-- the hash of nothing -/
def zeroH : List UInt8 := List.replicate 32 0
theorem zeroH_length : zeroH.length = 32 := by simp [zeroH]
theorem txB_most2 (t : TTx) (hs : txSane t = true) (ho : ∀ i ∈ t.ins, i.ok) : (txB t).length ≤ 20100000 := by
  obtain ⟨⟨c1, c2, c3⟩, s1, s2⟩ := (txSane_iff t).1 hs
  have h := fun n => (Cm.size_le n).2
  have hi := flat_le inB 10049 t.ins fun i hi => inB_length i (ho i hi).1 (s1 i hi)
  have hu := flat_le outBs 10017 t.outs fun i hi => outBs_length i (s2 i hi)
  have e1 : t.ins.length * 10049 ≤ 1000 * 10049 := Nat.mul_le_mul_right _ c2
  have e2 : t.outs.length * 10017 ≤ 1000 * 10017 := Nat.mul_le_mul_right _ c3
  simp only [txB, List.length_append, Cm.lo_length, Cm.put_length]
  have h1 := h t.ins.length
  have h2 := h t.outs.length
  omega
set_option maxRecDepth 100000 in
set_option maxHeartbeats 2000000 in
theorem TId_bad (ver lock : Nat) (_ : ver < 4294967296) (_ : lock < 4294967296) (l : List (TIn × Sl)) (m : List (TOut × Sl)) (A1 A2 : Option Addr) (n1 n2 c1 c2 : Nat) (hn1 : l.length = n1) (hn2 : m.length = n2) (w : World) (h1 : RdIns w A1 l) (h2 : RdOuts w A2 m) (_ : Tabs w) (hs : txSane (txOf ver l m lock) = false) :
    Calls Tryd.prog 9 #[.agg #[.int .u32 (ver : Int), .slice A1 n1 c1, .slice A2 n2 c2, .int .u32 (lock : Int)]] w fun e w' => e = .returned (.tuple #[.agg (hcs zeroH), .int .i64 3]) ∧ Below w.heap.size w w' := by
  have hz := zeros_32
  have hzl : (List.replicate 32 (0 : UInt8)).length = 32 := by simp
  obtain ⟨zs, hzs⟩ : ∃ zs : List UInt8, zs = List.replicate 32 0 := ⟨_, rfl⟩
  rw [← hzs] at hz hzl
  have hzz : zeroH = zs := hzs.symm
  clear hzs
  replace hzl := Lib.hid hzl
  replace hzz := Lib.hid hzz
  obtain ⟨W, hW⟩ : ∃ W, W = ((w.alloc (.cells #[.int .u32 (ver : Int), .slice A1 n1 c1, .slice A2 n2 c2, .int .u32 (lock : Int)] 36)).alloc (.cells (zs.map bv).toArray 39)) := ⟨_, rfl⟩
  obtain ⟨H, hH⟩ : ∃ H, H = w.heap.size := ⟨_, rfl⟩
  have bW : Below w.heap.size w W := by rw [hW]; exact ((Below.refl _ _).alloc (Nat.le_refl _) _).alloc (by simp) _
  have aW : Av W H 36 [.int .u32 (ver : Int), .slice A1 n1 c1, .slice A2 n2 c2, .int .u32 (lock : Int)] := by rw [hW, hH]; exact heap_alloc2_old _ _ _
  have zW : Av W (H + 1) 39 (zs.map bv) := by rw [hW, hH]; exact heap_alloc2_new _ _ _
  replace hW := Lib.hid hW
  replace hH := Lib.hid hH
  have HP := Lib.hid (fun w' q1 q2 => TPut_bad ver lock l m A1 A2 n1 n2 c1 c2 hn1 hn2 w' q1 q2 hs)
  clear hs hn1 hn2
  go_enter Tryd.func9, Tryd.ntmps9
  go_upto_region 1 with fail
  rw [← hW.out, ← hH.out]
  go_upto_region 3 with (first
    | ((with_reducible refine wpList_loadF 36 aW ?_ _ 4 ?_ Tryd.underlying36 ?_ ?_ ?_); rfl; rfl; rfl; kernel_rfl)
    | (go_at_call 7; refine (HP.out _ (h1.below bW) (h2.below bW)).mono ?_; rintro e w4 ⟨rfl, b4⟩))
  have bw4 := bW.trans (b4.mono bW.size)
  have z4 := zW.below b4
  have hH4 : w.heap.size ≤ H + 1 := by rw [hH.out]; omega
  go_wp2_with (refine wpList_storeAv bw4 z4 hH4 rfl _ _ _ rfl rfl (zs.map bv) rfl 32 (by rw [List.length_map, hzl.out]) (by kernel_rfl) (by rw [List.size_toArray, List.length_map]; exact hzl.out) (by simp [Value.oneCell']) ?_; intro w6 a6 b6 k6 z6)
  refine bodyPost_ret (v := .tuple #[.agg (zs.map bv).toArray, .int .i64 3]) ((results_cellAv1 (C := zs.map bv) (by rfl) (by rfl) a6 _ Tryd.underlying39 rfl 32 (by rw [List.length_map, hzl.out]) (by kernel_rfl)).trans (by rfl)) (by rfl) ?_
  exact ⟨by rw [hzz.out], b6⟩
set_option maxRecDepth 100000 in
set_option maxHeartbeats 2000000 in
theorem TId_ok (ver lock : Nat) (hv : ver < 4294967296) (hlk : lock < 4294967296) (l : List (TIn × Sl)) (m : List (TOut × Sl)) (A1 A2 : Option Addr) (n1 n2 c1 c2 : Nat) (hn1 : l.length = n1) (hn2 : m.length = n2) (w : World) (h1 : RdIns w A1 l) (h2 : RdOuts w A2 m) (ht : Tabs w) (hs : txSane (txOf ver l m lock) = true) :
    Calls Tryd.prog 9 #[.agg #[.int .u32 (ver : Int), .slice A1 n1 c1, .slice A2 n2 c2, .int .u32 (lock : Int)]] w fun e w' => e = .returned (.tuple #[.agg (hcs (dblB (txB (txOf ver l m lock)))), .int .i64 0]) ∧ Below w.heap.size w w' := by
  have hz := zeros_32
  have hzl : (List.replicate 32 (0 : UInt8)).length = 32 := by simp
  obtain ⟨zs, hzs⟩ : ∃ zs : List UInt8, zs = List.replicate 32 0 := ⟨_, rfl⟩
  rw [← hzs] at hz hzl
  have hzz : zeroH = zs := hzs.symm
  clear hzs
  replace hzl := Lib.hid hzl
  replace hzz := Lib.hid hzz
  obtain ⟨W, hW⟩ : ∃ W, W = ((w.alloc (.cells #[.int .u32 (ver : Int), .slice A1 n1 c1, .slice A2 n2 c2, .int .u32 (lock : Int)] 36)).alloc (.cells (zs.map bv).toArray 39)) := ⟨_, rfl⟩
  obtain ⟨H, hH⟩ : ∃ H, H = w.heap.size := ⟨_, rfl⟩
  have bW : Below w.heap.size w W := by rw [hW]; exact ((Below.refl _ _).alloc (Nat.le_refl _) _).alloc (by simp) _
  have aW : Av W H 36 [.int .u32 (ver : Int), .slice A1 n1 c1, .slice A2 n2 c2, .int .u32 (lock : Int)] := by rw [hW, hH]; exact heap_alloc2_old _ _ _
  have zW : Av W (H + 1) 39 (zs.map bv) := by rw [hW, hH]; exact heap_alloc2_new _ _ _
  replace hW := Lib.hid hW
  replace hH := Lib.hid hH
  have HP := Lib.hid (fun w' q1 q2 => TPut_ok ver lock hv hlk l m A1 A2 n1 n2 c1 c2 hn1 hn2 w' q1 q2 hs)
  have hmost := txB_most2 (txOf ver l m lock) hs (by
    intro i hi
    obtain ⟨x, hx, rfl⟩ := List.mem_map.1 hi
    exact (h1.2 x hx).1)
  obtain ⟨ps, hps⟩ : ∃ ps, ps = txB (txOf ver l m lock) := ⟨_, rfl⟩
  rw [← hps] at HP hmost ⊢
  obtain ⟨K, hK⟩ : ∃ K, K = ps.length := ⟨_, rfl⟩
  rw [← hK] at hmost
  obtain ⟨dd, hdd⟩ : ∃ l, l = dblB ps := ⟨_, rfl⟩
  have hdl : dd.length = 32 := by rw [hdd, dblB_length]
  rw [← hdd]
  have HD := fun A c w' hc q t => Double ps A K c hK.symm hc (by omega) w' q t
  rw [← hdd] at HD
  replace HD := Lib.hid HD
  replace hdl := Lib.hid hdl
  replace hdd := Lib.hid hdd
  replace hK := Lib.hid hK
  replace hps := Lib.hid hps
  clear hs hn1 hn2
  go_enter Tryd.func9, Tryd.ntmps9
  go_upto_region 1 with fail
  rw [← hW.out, ← hH.out]
  go_upto_region 4 with (first
    | ((with_reducible refine wpList_loadF 36 aW ?_ _ 4 ?_ Tryd.underlying36 ?_ ?_ ?_); rfl; rfl; rfl; kernel_rfl)
    | (go_at_call 7; refine (HP.out _ (h1.below bW) (h2.below bW)).mono ?_; rintro e w4 ⟨v4, rfl, ho, b4⟩; obtain ⟨A4, c4, rfl, hc4, _⟩ := ho.formN K hK.out.symm))
  have bw4 := bW.trans (b4.mono bW.size)
  have z4 := zW.below b4
  have hH4 : w.heap.size ≤ H + 1 := by rw [hH.out]; omega
  have hr4 := ho.rd
  clear ho
  go_wp2_with fail
  refine (HD.out A4 c4 w4 hc4 hr4 (ht.below bw4)).mono ?_
  rintro e w5 ⟨rfl, b5⟩
  have bw5 := bw4.trans (b5.mono bw4.size)
  have z5 := z4.below b5
  go_wp2_with (refine wpList_storeAv bw5 z5 hH4 rfl _ _ _ rfl rfl (dd.map bv) rfl 32 (by rw [List.length_map, hdl.out]) (by kernel_rfl) (by rw [List.size_toArray, List.length_map]; exact hzl.out) (by simp [Value.oneCell']) ?_; intro w6 a6 b6 k6 z6)
  refine bodyPost_ret (v := .tuple #[.agg (dd.map bv).toArray, .int .i64 0]) ((results_cellAv1 (C := dd.map bv) (by rfl) (by rfl) a6 _ Tryd.underlying39 rfl 32 (by rw [List.length_map, hdl.out]) (by kernel_rfl)).trans (by rfl)) (by rfl) ?_
  exact ⟨rfl, b6⟩
theorem wpList_loadFg {P : Program} (ty : TypeId) {w : World} {g : Nat} {t : TypeId} {l : List Value} (h : Av w g t l) {ops : Array Oper} {rest : List Oper} {a : Act} {Q : Exit → Act → World → Prop} {d tp pos af gd} {x : Operand}
    (hw : Region.wanted ⟨d, .load ty x, tp, pos, af, gd⟩ (yielded ops a.tmps) = true) (hx : a.eval x = .pointer (some ⟨g, 0, none⟩)) (dd : TypeDesc) (n : Nat) (hn : l.length = n) (hu : P.underlying ty = some dd) (hd : (match dd with | .struct _ | .array _ _ => true | _ => false) = true) (hi : (P.info? ty).map (·.size) = some n)
    (k : wpList P ops Q rest (a.put d (.agg l.toArray)) w) : wpList P ops Q (⟨d, .load ty x, tp, pos, af, gd⟩ :: rest) a w :=
  wpList_execW hw (exec_loadAv h ty x rfl hx dd n hn hu hd hi) k
set_option maxRecDepth 100000 in
set_option maxHeartbeats 2000000 in
theorem ids_long (ver lock : Nat) (_ : ver < 4294967296) (_ : lock < 4294967296) (l : List (TIn × Sl)) (m : List (TOut × Sl)) (A1 A2 : Option Addr) (n1 n2 c1 c2 : Nat) (hn1 : l.length = n1) (hn2 : m.length = n2) (hm1 : n1 ≤ maxLen) (hm2 : n2 ≤ maxLen) (ver' lock' : Nat) (_ : ver' < 4294967296) (_ : lock' < 4294967296) (l' : List (TIn × Sl)) (m' : List (TOut × Sl)) (B1 B2 : Option Addr) (k1 k2 d1 d2 : Nat) (hk1 : l'.length = k1) (hk2 : m'.length = k2) (hp1 : k1 ≤ maxLen) (hp2 : k2 ≤ maxLen) (w : World) (h1 : RdIns w A1 l) (h2 : RdOuts w A2 m) (g1 : RdIns w B1 l') (g2 : RdOuts w B2 m') (hh : txFew (txOf ver l m lock) = false ∨ txFew (txOf ver' l' m' lock') = false) : Calls Tryd.prog 3 #[.agg #[.int .u32 (ver : Int), .slice A1 n1 c1, .slice A2 n2 c2, .int .u32 (lock : Int)], .agg #[.int .u32 (ver' : Int), .slice B1 k1 d1, .slice B2 k2 d2, .int .u32 (lock' : Int)]] w fun e w' => e = .returned (.bool true) ∧ Below w.heap.size w w' := by
  obtain ⟨W, hW⟩ : ∃ W, W = (w.alloc (.cells #[.int .u32 (ver : Int), .slice A1 n1 c1, .slice A2 n2 c2, .int .u32 (lock : Int)] 26)).alloc (.cells #[.int .u32 (ver' : Int), .slice B1 k1 d1, .slice B2 k2 d2, .int .u32 (lock' : Int)] 26) := ⟨_, rfl⟩
  obtain ⟨H, hH⟩ : ∃ H, H = w.heap.size := ⟨_, rfl⟩
  have bW : Below w.heap.size w W := by rw [hW]; exact ((Below.refl _ _).alloc (Nat.le_refl _) _).alloc (by simp) _
  have aW : Av W H 26 [.int .u32 (ver : Int), .slice A1 n1 c1, .slice A2 n2 c2, .int .u32 (lock : Int)] := by rw [hW, hH]; exact heap_alloc2_old _ _ _
  have cW : Av W (H + 1) 26 [.int .u32 (ver' : Int), .slice B1 k1 d1, .slice B2 k2 d2, .int .u32 (lock' : Int)] := by rw [hW, hH]; exact heap_alloc2_new _ _ _
  have HA := Lib.hid (awake8 W)
  have HF := fun w' q1 q2 => TFew ver lock l m A1 A2 n1 n2 c1 c2 hn1 hn2 hm1 hm2 w' q1 q2
  have HG := fun w' q1 q2 => TFew ver' lock' l' m' B1 B2 k1 k2 d1 d2 hk1 hk2 hp1 hp2 w' q1 q2
  obtain ⟨fa, hfa⟩ : ∃ f, f = txFew (txOf ver l m lock) := ⟨_, rfl⟩
  obtain ⟨fb, hfb⟩ : ∃ f, f = txFew (txOf ver' l' m' lock') := ⟨_, rfl⟩
  rw [← hfa] at HF hh
  rw [← hfb] at HG hh
  replace HF := Lib.hid HF
  replace HG := Lib.hid HG
  replace hW := Lib.hid hW
  replace hH := Lib.hid hH
  clear hfa hfb hn1 hn2 hk1 hk2
  cases fa
  · clear hh
    go_enter Tryd.func3, Tryd.ntmps3
    go_upto_region 1 with fail
    rw [← hW.out, ← hH.out]
    go_upto_region 2 with (go_at_call 5; refine (HA.out).mono ?_; rintro e w1 ⟨rfl, b1⟩)
    have bw1 : Below w.heap.size w w1 := bW.trans (b1.mono bW.size)
    have a1 := aW.below b1
    have c1' := cW.below b1
    have p1 := h1.below bw1
    have p2 := h2.below bw1
    have q1 := g1.below bw1
    have q2 := g2.below bw1
    clear HA
    go_wp2_with (first
      | ((with_reducible refine wpList_loadF 26 a1 ?_ _ 4 ?_ Tryd.underlying26 ?_ ?_ ?_); rfl; rfl; rfl; kernel_rfl)
      | (go_at_call 6; refine (HF.out _ p1 p2).mono ?_; rintro e w2 ⟨rfl, b2⟩; clear HF; have c2' := c1'.below b2; have q3 := q1.below b2; have q4 := q2.below b2))
    go_ret
    exact ⟨rfl, bw1.trans (b2.mono bw1.size)⟩
  · cases fb
    · clear hh
      go_enter Tryd.func3, Tryd.ntmps3
      go_upto_region 1 with fail
      rw [← hW.out, ← hH.out]
      go_upto_region 2 with (go_at_call 5; refine (HA.out).mono ?_; rintro e w1 ⟨rfl, b1⟩)
      have bw1 : Below w.heap.size w w1 := bW.trans (b1.mono bW.size)
      have a1 := aW.below b1
      have c1' := cW.below b1
      have p1 := h1.below bw1
      have p2 := h2.below bw1
      have q1 := g1.below bw1
      have q2 := g2.below bw1
      clear HA
      go_wp2_with (first
      | ((with_reducible refine wpList_loadF 26 a1 ?_ _ 4 ?_ Tryd.underlying26 ?_ ?_ ?_); rfl; rfl; rfl; kernel_rfl)
      | (go_at_call 6; refine (HF.out _ p1 p2).mono ?_; rintro e w2 ⟨rfl, b2⟩; clear HF; have c2' := c1'.below b2; have q3 := q1.below b2; have q4 := q2.below b2)
      | ((with_reducible refine wpList_loadFg 26 c2' ?_ ?_ _ 4 ?_ Tryd.underlying26 ?_ ?_ ?_); rfl; rfl; rfl; rfl; kernel_rfl)
      | (go_at_call 6; refine (HG.out _ q3 q4).mono ?_; rintro e w3 ⟨rfl, b3⟩))
      go_ret
      have bw2 := bw1.trans (b2.mono bw1.size)
      exact ⟨rfl, bw2.trans (b3.mono bw2.size)⟩
    · rcases hh with h | h <;> cases h
def TxW (ver lock n1 n2 : Nat) (l : List (TIn × Sl)) (m : List (TOut × Sl)) : VP := fun v w => ∃ (B1 B2 : Option Addr) (d1 d2 : Nat), v = .agg #[.int .u32 (ver : Int), .slice B1 n1 d1, .slice B2 n2 d2, .int .u32 (lock : Int)] ∧ RdIns w B1 l ∧ RdOuts w B2 m
theorem TxW.mono {ver lock n1 n2 : Nat} {l : List (TIn × Sl)} {m : List (TOut × Sl)} {v : Value} {w w' : World} (h : Ext w w') : TxW ver lock n1 n2 l m v w → TxW ver lock n1 n2 l m v w' := by
  rintro ⟨B1, B2, d1, d2, rfl, q1, q2⟩
  exact ⟨B1, B2, d1, d2, rfl, q1.below h, q2.below h⟩
theorem relRes_enterT {P : Program} {R : World → World → Prop} {w : World} {c : Value} {x} (f : FuncId) (args : Array Value) (he : x = .ok (.enter f args) w) (h : Calls P f args w fun e w' => e = .returned c ∧ R w w') : relRes P R w (fun v _ => v = c) x := by
  rw [he]
  exact h.mono fun e w' ⟨h1, h2⟩ => ⟨c, h1, h2, rfl⟩
theorem strEq1 {a b : List UInt8} (x y : Operand) (w : World) : (do eqGuard .eql 9 x y (.string ⟨a.toArray⟩) (.string ⟨b.toArray⟩); binOp .eql 9 (.string ⟨a.toArray⟩) (.string ⟨b.toArray⟩) : Sem Value).run Tryd.prog w = .ok (.bool (a == b)) w := by
  go_simp
theorem txB_inj {t u : TTx} (ht : t.ok) (hu : u.ok) (hs : txSane t = true) (hs2 : txSane u = true) : (txB t == txB u) = true ↔ t = u := by
  constructor
  · intro h
    have e1 := txGet_txB t ht hs []
    have e2 := txGet_txB u hu hs2 []
    rw [beq_iff_eq.1 h, e2] at e1
    exact (congrArg Prod.fst e1).symm
  · rintro rfl
    exact beq_self_eq_true _
theorem hne1 (a : List UInt8) (ha : a.length = 32) (x y : Operand) (w : World) : (do eqGuard .neq 39 x y (.agg (hcs a)) (.agg (hcs a)); binOp .neq 39 (.agg (hcs a)) (.agg (hcs a)) : Sem Value).run Tryd.prog w = .ok (.bool false) w := by
  rw [Sem.run_bind, show (eqGuard .neq 39 x y (.agg (hcs a)) (.agg (hcs a))).run Tryd.prog w = .ok () w by go_simp]
  have := neqP a a ha ha w
  simpa using this
theorem TSame_all (ver lock ver' lock' : Nat) (l l' : List (TIn × Sl)) (m m' : List (TOut × Sl)) (A1 A2 B1 B2 : Option Addr) (n1 n2 c1 c2 k1 k2 d1 d2 : Nat) (hn1 : l.length = n1) (hn2 : m.length = n2) (hk1 : l'.length = k1) (hk2 : m'.length = k2) (hm1 : n1 ≤ 100000) (hm2 : n2 ≤ 100000) (w : World) (h1 : RdIns w A1 l) (h2 : RdOuts w A2 m) (g1 : RdIns w B1 l') (g2 : RdOuts w B2 m')
    (b : Bool) (hb : b = true ↔ txOf ver l m lock = txOf ver' l' m' lock') :
    Calls Tryd.prog 11 #[.agg #[.int .u32 (ver : Int), .slice A1 n1 c1, .slice A2 n2 c2, .int .u32 (lock : Int)], .agg #[.int .u32 (ver' : Int), .slice B1 k1 d1, .slice B2 k2 d2, .int .u32 (lock' : Int)]] w fun e w' => e = .returned (.bool b) ∧ Below w.heap.size w w' := by
  by_cases h : ver = ver' ∧ lock = lock' ∧ n1 = k1 ∧ n2 = k2
  · obtain ⟨rfl, rfl, rfl, rfl⟩ := h
    exact TSame_yes ver lock l l' m m' A1 A2 B1 B2 n1 n2 c1 c2 d1 d2 hn1 hn2 hk1 hk2 hm1 hm2 w h1 h2 g1 g2 b hb
  · exact TSame_no ver lock ver' lock' l l' m m' A1 A2 B1 B2 n1 n2 c1 c2 k1 k2 d1 d2 hn1 hn2 hk1 hk2 w b hb h
set_option maxRecDepth 100000 in
set_option maxHeartbeats 8000000 in
theorem ids_true_true (ver lock : Nat) (hv : ver < 4294967296) (hlk : lock < 4294967296) (l : List (TIn × Sl)) (m : List (TOut × Sl)) (A1 A2 : Option Addr) (n1 n2 c1 c2 : Nat) (hn1 : l.length = n1) (hn2 : m.length = n2) (hm1 : n1 ≤ maxLen) (hm2 : n2 ≤ maxLen) (ver' lock' : Nat) (hv' : ver' < 4294967296) (hlk' : lock' < 4294967296) (l' : List (TIn × Sl)) (m' : List (TOut × Sl)) (B1 B2 : Option Addr) (k1 k2 d1 d2 : Nat) (hk1 : l'.length = k1) (hk2 : m'.length = k2) (hp1 : k1 ≤ maxLen) (hp2 : k2 ≤ maxLen) (w : World) (h1 : RdIns w A1 l) (h2 : RdOuts w A2 m) (g1 : RdIns w B1 l') (g2 : RdOuts w B2 m') (ht : Tabs w) (hf : txFew (txOf ver l m lock) = true) (hg : txFew (txOf ver' l' m' lock') = true) (hs : txSane (txOf ver l m lock) = true) (ht2 : txSane (txOf ver' l' m' lock') = true) : Calls Tryd.prog 3 #[.agg #[.int .u32 (ver : Int), .slice A1 n1 c1, .slice A2 n2 c2, .int .u32 (lock : Int)], .agg #[.int .u32 (ver' : Int), .slice B1 k1 d1, .slice B2 k2 d2, .int .u32 (lock' : Int)]] w fun e w' => e = .returned (.bool true) ∧ Below w.heap.size w w' := by
  have hz := zeros_32
  have hzl : (List.replicate 32 (0 : UInt8)).length = 32 := by simp
  obtain ⟨zs, hzs⟩ : ∃ zs : List UInt8, zs = List.replicate 32 0 := ⟨_, rfl⟩
  rw [← hzs] at hz hzl
  have hzz : zeroH = zs := hzs.symm
  clear hzs
  replace hzl := Lib.hid hzl
  obtain ⟨W, hW⟩ : ∃ W, W = (w.alloc (.cells #[.int .u32 (ver : Int), .slice A1 n1 c1, .slice A2 n2 c2, .int .u32 (lock : Int)] 26)).alloc (.cells #[.int .u32 (ver' : Int), .slice B1 k1 d1, .slice B2 k2 d2, .int .u32 (lock' : Int)] 26) := ⟨_, rfl⟩
  obtain ⟨H, hH⟩ : ∃ H, H = w.heap.size := ⟨_, rfl⟩
  have bW : Below w.heap.size w W := by rw [hW]; exact ((Below.refl _ _).alloc (Nat.le_refl _) _).alloc (by simp) _
  have aW : Av W H 26 [.int .u32 (ver : Int), .slice A1 n1 c1, .slice A2 n2 c2, .int .u32 (lock : Int)] := by rw [hW, hH]; exact heap_alloc2_old _ _ _
  have cW : Av W (H + 1) 26 [.int .u32 (ver' : Int), .slice B1 k1 d1, .slice B2 k2 d2, .int .u32 (lock' : Int)] := by rw [hW, hH]; exact heap_alloc2_new _ _ _
  have HA := Lib.hid (awake8 W)
  have HF := fun w' q1 q2 => TFew ver lock l m A1 A2 n1 n2 c1 c2 hn1 hn2 hm1 hm2 w' q1 q2
  have HG := fun w' q1 q2 => TFew ver' lock' l' m' B1 B2 k1 k2 d1 d2 hk1 hk2 hp1 hp2 w' q1 q2
  rw [hf] at HF
  rw [hg] at HG
  obtain ⟨_, _, f1, f2⟩ := (txFew_iff _).1 hf
  obtain ⟨_, _, f3, f4⟩ := (txFew_iff _).1 hg
  simp only [txOf, List.length_map, hn1, hn2] at f1 f2
  simp only [txOf, List.length_map, hk1, hk2] at f3 f4
  have HO := fun w' q1 q2 => TOurs ver lock hv hlk l m A1 A2 n1 n2 c1 c2 hn1 hn2 (by omega) (by omega) w' q1 q2
  have HQ := fun w' q1 q2 => TOurs ver' lock' hv' hlk' l' m' B1 B2 k1 k2 d1 d2 hk1 hk2 (by omega) (by omega) w' q1 q2
  have HS := fun B1 B2 e1 e2 w' q1 q2 => TSane ver lock l m B1 B2 n1 n2 e1 e2 hn1 hn2 w' q1 q2
  rw [hs] at HS
  have HP := fun B1 B2 e1 e2 w' q1 q2 => TPut_ok ver lock hv hlk l m B1 B2 n1 n2 e1 e2 hn1 hn2 w' q1 q2 hs
  have HI := fun B1 B2 e1 e2 w' q1 q2 t => TId_ok ver lock hv hlk l m B1 B2 n1 n2 e1 e2 hn1 hn2 w' q1 q2 t hs
  have hmost := txB_most2 (txOf ver l m lock) hs (by
    intro i hi
    obtain ⟨x, hx, rfl⟩ := List.mem_map.1 hi
    exact (h1.2 x hx).1)
  have HR := fun B1 B2 e1 e2 w' q1 q2 => TPut_ok ver' lock' hv' hlk' l' m' B1 B2 k1 k2 e1 e2 hk1 hk2 w' q1 q2 ht2
  have hq : ∃ q : Bool, (q = true ↔ txOf ver l m lock = txOf ver' l' m' lock') ∧ q = (txB (txOf ver l m lock) == txB (txOf ver' l' m' lock')) := by
    refine ⟨_, txB_inj ?_ ?_ hs ht2, rfl⟩
    · exact ⟨hv, hlk, fun i hi => by obtain ⟨x, hx, rfl⟩ := List.mem_map.1 hi; exact (h1.2 x hx).1, fun i hi => by obtain ⟨x, hx, rfl⟩ := List.mem_map.1 hi; exact (h2.2 x hx).1⟩
    · exact ⟨hv', hlk', fun i hi => by obtain ⟨x, hx, rfl⟩ := List.mem_map.1 hi; exact (g1.2 x hx).1, fun i hi => by obtain ⟨x, hx, rfl⟩ := List.mem_map.1 hi; exact (g2.2 x hx).1⟩
  obtain ⟨q, hq1, hq2⟩ := hq
  have HM := fun w' q1 q2 q3 q4 => TSame_all ver lock ver' lock' l l' m m' A1 A2 B1 B2 n1 n2 c1 c2 k1 k2 d1 d2 hn1 hn2 hk1 hk2 (by omega) (by omega) w' q1 q2 q3 q4 q hq1
  replace HM := Lib.hid HM
  obtain ⟨ps, hps⟩ : ∃ ps, ps = txB (txOf ver l m lock) := ⟨_, rfl⟩
  rw [← hps] at HP HI hmost hq2
  obtain ⟨K, hK⟩ : ∃ K, K = ps.length := ⟨_, rfl⟩
  rw [← hK] at hmost
  obtain ⟨dd, hdd⟩ : ∃ l, l = dblB ps := ⟨_, rfl⟩
  have hdl : dd.length = 32 := by rw [hdd, dblB_length]
  have HD := fun A c w' hc q t => Double ps A K c hK.symm hc (by omega) w' q t
  rw [← hdd] at HD HI
  replace HD := Lib.hid HD
  replace hdl := Lib.hid hdl
  replace hdd := Lib.hid hdd
  replace hK := Lib.hid hK
  replace hps := Lib.hid hps
  obtain ⟨us, hus⟩ : ∃ us, us = txB (txOf ver' l' m' lock') := ⟨_, rfl⟩
  rw [← hus] at HR hq2
  obtain ⟨J, hJ⟩ : ∃ J, J = us.length := ⟨_, rfl⟩
  replace hJ := Lib.hid hJ
  replace hus := Lib.hid hus
  replace hq2 := Lib.hid hq2
  clear hq1
  replace HF := Lib.hid HF
  replace HG := Lib.hid HG
  replace HO := Lib.hid HO
  replace HQ := Lib.hid HQ
  replace HS := Lib.hid HS
  replace HP := Lib.hid HP
  replace HI := Lib.hid HI
  replace HR := Lib.hid HR
  replace hW := Lib.hid hW
  replace hH := Lib.hid hH
  replace hzz := Lib.hid hzz
  replace hn1 := Lib.hid hn1
  replace hn2 := Lib.hid hn2
  replace hk1 := Lib.hid hk1
  replace hk2 := Lib.hid hk2
  clear hf hg hs ht2
  go_enter Tryd.func3, Tryd.ntmps3
  go_upto_region 1 with fail
  rw [← hW.out, ← hH.out]
  go_upto_region 2 with (go_at_call 5; refine (HA.out).mono ?_; rintro e w1 ⟨rfl, b1⟩)
  have bw1 : Below w.heap.size w w1 := bW.trans (b1.mono bW.size)
  have a1 := aW.below b1
  have c1' := cW.below b1
  have p1 := h1.below bw1
  have p2 := h2.below bw1
  have q1 := g1.below bw1
  have q2 := g2.below bw1
  clear HA
  go_upto_region 4 with (first
      | ((with_reducible refine wpList_loadF 26 a1 ?_ _ 4 ?_ Tryd.underlying26 ?_ ?_ ?_); rfl; rfl; rfl; kernel_rfl)
      | (go_at_call 6; refine (HF.out _ p1 p2).mono ?_; rintro e w2 ⟨rfl, b2⟩; clear HF; have c2' := c1'.below b2; have q3 := q1.below b2; have q4 := q2.below b2)
      | ((with_reducible refine wpList_loadFg 26 c2' ?_ ?_ _ 4 ?_ Tryd.underlying26 ?_ ?_ ?_); rfl; rfl; rfl; rfl; kernel_rfl)
      | (go_at_call 6; refine (HG.out _ q3 q4).mono ?_; rintro e w3 ⟨rfl, b3⟩))
  have bw2 := bw1.trans (b2.mono bw1.size)
  have bw3 := bw2.trans (b3.mono bw2.size)
  have a3 := (a1.below b2).below b3
  have c3' := c2'.below b3
  have p3 := h1.below bw3
  have p4 := h2.below bw3
  clear a1 c1' c2' p1 p2 q1 q2 q3 q4 HG
  go_upto_region 5 with (first
    | ((with_reducible refine wpList_loadF 26 a3 ?_ _ 4 ?_ Tryd.underlying26 ?_ ?_ ?_); rfl; rfl; rfl; kernel_rfl)
    | (go_at_call 8; refine (HO.out _ p3 p4).mono ?_; rintro e w4 ⟨D1, D2, e1, e2, rfl, y1, y2, s1, s2, b4⟩)
    | (go_at_call 7; refine (HP.out _ _ _ _ _ s1 s2).mono ?_; rintro e w5 ⟨v5, rfl, ho, b5⟩; obtain ⟨A5, c5, rfl, hc5, _⟩ := ho.formN K hK.out.symm))
  have bw4 := bw3.trans (b4.mono bw3.size)
  have bw5 := bw4.trans (b5.mono bw4.size)
  have a5 := (a3.below b4).below b5
  have c5' := (c3'.below b4).below b5
  have q5 := g1.below bw5
  have q6 := g2.below bw5
  have hr5 := ho.rd
  clear a3 c3' p3 p4 y1 y2 s1 s2 ho
  go_upto_region 6 with (first
    | ((with_reducible refine wpList_loadF 26 c5' ?_ _ 4 ?_ Tryd.underlying26 ?_ ?_ ?_); rfl; rfl; rfl; kernel_rfl)
    | (go_at_call 8; refine (HQ.out _ q5 q6).mono ?_; rintro e w6 ⟨E1, E2, x1, x2, rfl, y1, y2, s1, s2, b6⟩)
    | (go_at_call 7; refine (HR.out _ _ _ _ _ s1 s2).mono ?_; rintro e w7 ⟨v7, rfl, ho7, b7⟩; obtain ⟨A7, c7, rfl, hc7, _⟩ := ho7.formN J hJ.out.symm))
  have bw6 := bw5.trans (b6.mono bw5.size)
  have bw7 := bw6.trans (b7.mono bw6.size)
  have a7 := (a5.below b6).below b7
  have c7' := (c5'.below b6).below b7
  have p7 := h1.below bw7
  have p8 := h2.below bw7
  have ht7 := ht.below bw7
  have hr7 := (hr5.below b6).below b7
  have hu7 := ho7.rd
  clear a5 c5' q5 q6 y1 y2 s1 s2 hr5 ho7
  go_upto_region 7 with (first
    | ((with_reducible refine wpList_loadF 26 a7 ?_ _ 4 ?_ Tryd.underlying26 ?_ ?_ ?_); rfl; rfl; rfl; kernel_rfl)
    | (go_at_call 8; refine (HO.out _ p7 p8).mono ?_; rintro e w8 ⟨D1, D2, e1, e2, rfl, y1, y2, s1, s2, b8⟩; have ht8 := ht7.below b8)
    | (go_at_call 9; refine (HI.out _ _ _ _ _ s1 s2 ht8).mono ?_; rintro e w9 ⟨rfl, b9⟩)
    | ((with_reducible refine wpList_storeF 39 ((Below.refl w9.heap.size w9).alloc (Nat.le_refl _) _) (heap_alloc_new _ _) (Nat.le_refl _) (dd.map bv) ?_ ?_ 32 ?_ ?_ ?_ ?_ ?_); rfl; rfl; (rw [List.length_map, hdl.out]); kernel_rfl; (rw [List.size_toArray, List.length_map]; exact hzl.out); (simp [Value.oneCell']); intro w10 g10 b10 k10 z10; clear k10; replace z10 := Lib.hid z10))
  have bw8 := bw7.trans (b8.mono bw7.size)
  have bw9 := bw8.trans (b9.mono bw8.size)
  have bw10 := bw9.trans (b10.mono bw9.size)
  have a10 := ((a7.below b8).below b9).below b10
  have c10' := ((c7'.below b8).below b9).below b10
  have hr10 := ((hr7.below b8).below b9).below b10
  have hu10 := ((hu7.below b8).below b9).below b10
  have hx32 : (dd.map bv).length = 32 := by rw [List.length_map, hdl.out]
  clear a7 c7' p7 p8 ht7 ht8 y1 y2 s1 s2 hr7 hu7
  have N1 := Lib.hid (hne1 dd hdl.out)
  go_wp2_with fail
  refine wp_region_rel [] Ext (by kernel_rfl) (by kernel_rfl) (by kernel_rfl) Ext.refl Ext.trans (by intro p hp; cases hp) ?_
  refine relMove Ext.refl rfl rfl rfl rfl _ (.inl rfl) (by conv => lhs; whnf) (by simp only [List.set_cons_succ, List.set_cons_zero]; rfl) ?_
  refine relMove Ext.refl rfl rfl rfl rfl _ (.inl rfl) (by conv => lhs; whnf) (by simp only [List.set_cons_succ, List.set_cons_zero]; rfl) ?_
  refine relPure Ext.refl rfl rfl rfl rfl (c := .bool false) (fun w _ => by go_simp; first | done | rfl) (by simp only [List.set_cons_succ, List.set_cons_zero]; rfl) ?_
  refine relMove Ext.refl rfl rfl rfl rfl _ (.inl rfl) (by conv => lhs; whnf) (by simp only [List.set_cons_succ, List.set_cons_zero]; rfl) ?_
  refine relMove Ext.refl rfl rfl rfl rfl _ (.inl rfl) (by conv => lhs; whnf) (by simp only [List.set_cons_succ, List.set_cons_zero]; rfl) ?_
  refine relPure Ext.refl rfl rfl rfl rfl (c := .bool true) (fun w _ => by go_simp; first | done | rfl) (by simp only [List.set_cons_succ, List.set_cons_zero]; rfl) ?_
  refine relMove Ext.refl rfl rfl rfl rfl _ (.inl rfl) (by conv => lhs; whnf) (by simp only [List.set_cons_succ, List.set_cons_zero]; rfl) ?_
  refine relPure Ext.refl rfl rfl rfl rfl (c := .agg (hcs dd)) (fun w hw => exec_loadAv (g10.below hw.drew) _ _ rfl rfl _ 32 hx32 Tryd.underlying39 rfl (by kernel_rfl)) (by simp only [List.set_cons_succ, List.set_cons_zero]; rfl) ?_
  refine relMove Ext.refl rfl rfl rfl rfl _ (.inl rfl) (by conv => lhs; whnf) (by simp only [List.set_cons_succ, List.set_cons_zero]; rfl) ?_
  refine relCall1 rfl rfl rfl rfl (c := .agg (hcs dd)) 10 #[.slice A5 K c5] (fun w => by go_simp) (fun w hw => (HD.out A5 c5 w hc5 (hr10.below hw.drew) (ht.below (bw10.trans (hw.drew.mono bw10.size)))).mono ?_) (by simp only [List.set_cons_succ, List.set_cons_zero]; rfl) ?_
  · rintro e w' ⟨rfl, hb⟩
    exact ⟨rfl, hb⟩
  refine relBin Ext.refl rfl rfl rfl rfl _ _ _ _ _ rfl (by conv => lhs; whnf) (by conv => lhs; whnf) (c := .bool false) (fun w => N1.out _ _ w) (by simp only [List.set_cons_succ, List.set_cons_zero]; rfl) ?_
  refine relPick Ext.refl rfl rfl rfl rfl _ _ _ rfl rfl (by conv => lhs; whnf) (by simp only [List.set_cons_succ, List.set_cons_zero]; rfl) ?_
  refine relPick Ext.refl rfl rfl rfl rfl _ _ _ rfl rfl (by conv => lhs; whnf) (by simp only [List.set_cons_succ, List.set_cons_zero]; rfl) ?_
  refine relMove Ext.refl rfl rfl rfl rfl _ (.inl rfl) (by conv => lhs; whnf) (by simp only [List.set_cons_succ, List.set_cons_zero]; rfl) ?_
  refine relMove Ext.refl rfl rfl rfl rfl _ (.inl rfl) (by conv => lhs; whnf) (by simp only [List.set_cons_succ, List.set_cons_zero]; rfl) ?_
  refine relPure Ext.refl rfl rfl rfl rfl (c := .bool false) (fun w _ => by go_simp; first | done | rfl) (by simp only [List.set_cons_succ, List.set_cons_zero]; rfl) ?_
  refine relMove Ext.refl rfl rfl rfl rfl _ (.inl rfl) (by conv => lhs; whnf) (by simp only [List.set_cons_succ, List.set_cons_zero]; rfl) ?_
  refine relSkip rfl rfl rfl rfl (by simp only [List.set_cons_succ, List.set_cons_zero]; rfl) ?_
  refine relSkip rfl rfl rfl rfl (by simp only [List.set_cons_succ, List.set_cons_zero]; rfl) ?_
  refine relSkip rfl rfl rfl rfl (by simp only [List.set_cons_succ, List.set_cons_zero]; rfl) ?_
  refine relPick Ext.refl rfl rfl rfl rfl _ _ _ rfl rfl (by conv => lhs; whnf) (by simp only [List.set_cons_succ, List.set_cons_zero]; rfl) ?_
  refine relPick Ext.refl rfl rfl rfl rfl _ _ _ rfl rfl (by conv => lhs; whnf) (by simp only [List.set_cons_succ, List.set_cons_zero]; rfl) ?_
  refine relEnd fun w11 hw11 => fill_end ?_
  have bw11 := bw10.trans (hw11.drew.mono bw10.size)
  have a11 := a10.below hw11.drew
  have c11' := c10'.below hw11.drew
  have hr11 := hr10.below hw11.drew
  have hu11 := hu10.below hw11.drew
  have p11 := h1.below bw11
  have p12 := h2.below bw11
  have q11 := g1.below bw11
  have q12 := g2.below bw11
  go_wp2_with fail
  refine wp_region_relT 28 [(24, TxW ver lock n1 n2 l m)] Ext (by kernel_rfl) (by kernel_rfl) (by kernel_rfl) (by kernel_rfl) (by kernel_rfl) Ext.refl Ext.trans (by intro p hp v w w' hR; simp only [List.mem_singleton] at hp; subst hp; exact TxW.mono hR) ?_
  refine relMove Ext.refl rfl rfl rfl rfl _ (.inl rfl) (by conv => lhs; whnf) (by simp only [List.set_cons_succ, List.set_cons_zero]; rfl) ?_
  refine relMove Ext.refl rfl rfl rfl rfl _ (.inl rfl) (by conv => lhs; whnf) (by simp only [List.set_cons_succ, List.set_cons_zero]; rfl) ?_
  refine relMove Ext.refl rfl rfl rfl rfl _ (.inl rfl) (by conv => lhs; whnf) (by simp only [List.set_cons_succ, List.set_cons_zero]; rfl) ?_
  refine relPure Ext.refl rfl rfl rfl rfl (c := .bool false) (fun w _ => by go_simp; first | done | rfl) (by simp only [List.set_cons_succ, List.set_cons_zero]; rfl) ?_
  refine relMove Ext.refl rfl rfl rfl rfl _ (.inl rfl) (by conv => lhs; whnf) (by simp only [List.set_cons_succ, List.set_cons_zero]; rfl) ?_
  refine relMove Ext.refl rfl rfl rfl rfl _ (.inl rfl) (by conv => lhs; whnf) (by simp only [List.set_cons_succ, List.set_cons_zero]; rfl) ?_
  refine relPure Ext.refl rfl rfl rfl rfl (c := .bool false) (fun w _ => by go_simp; first | done | rfl) (by simp only [List.set_cons_succ, List.set_cons_zero]; rfl) ?_
  refine relPick Ext.refl rfl rfl rfl rfl _ _ _ rfl rfl (by conv => lhs; whnf) (by simp only [List.set_cons_succ, List.set_cons_zero]; rfl) ?_
  refine relMove Ext.refl rfl rfl rfl rfl _ (.inl rfl) (by conv => lhs; whnf) (by simp only [List.set_cons_succ, List.set_cons_zero]; rfl) ?_
  refine relMove Ext.refl rfl rfl rfl rfl _ (.inl rfl) (by conv => lhs; whnf) (by simp only [List.set_cons_succ, List.set_cons_zero]; rfl) ?_
  refine relStr rfl rfl rfl rfl _ rfl (by conv => lhs; whnf) ps hK.out.symm (fun w hw => hr11.below hw.drew) (by simp only [List.set_cons_succ, List.set_cons_zero]; rfl) ?_
  refine relMove Ext.refl rfl rfl rfl rfl _ (.inl rfl) (by conv => lhs; whnf) (by simp only [List.set_cons_succ, List.set_cons_zero]; rfl) ?_
  refine relStr rfl rfl rfl rfl _ rfl (by conv => lhs; whnf) us hJ.out.symm (fun w hw => hu11.below hw.drew) (by simp only [List.set_cons_succ, List.set_cons_zero]; rfl) ?_
  refine relBin Ext.refl rfl rfl rfl rfl _ _ _ _ _ rfl (by conv => lhs; whnf) (by conv => lhs; whnf) (c := .bool q) (fun w => by rw [hq2.out]; exact strEq1 _ _ w) (by simp only [List.set_cons_succ, List.set_cons_zero]; rfl) ?_
  refine relPure Ext.refl rfl rfl rfl rfl (c := .agg #[.int .u32 (ver : Int), .slice A1 n1 c1, .slice A2 n2 c2, .int .u32 (lock : Int)]) (fun w hw => exec_loadAv (a11.below hw.drew) _ _ rfl rfl _ 4 rfl Tryd.underlying26 rfl (by kernel_rfl)) (by simp only [List.set_cons_succ, List.set_cons_zero]; rfl) ?_
  refine relPure Ext.refl rfl rfl rfl rfl (c := .agg #[.int .u32 (ver' : Int), .slice B1 k1 d1, .slice B2 k2 d2, .int .u32 (lock' : Int)]) (fun w hw => exec_loadAv (c11'.below hw.drew) _ _ rfl rfl _ 4 rfl Tryd.underlying26 rfl (by kernel_rfl)) (by simp only [List.set_cons_succ, List.set_cons_zero]; rfl) ?_
  refine relCall1 rfl rfl rfl rfl (c := .bool q) 11 #[.agg #[.int .u32 (ver : Int), .slice A1 n1 c1, .slice A2 n2 c2, .int .u32 (lock : Int)], .agg #[.int .u32 (ver' : Int), .slice B1 k1 d1, .slice B2 k2 d2, .int .u32 (lock' : Int)]] (fun w => by go_simp) (fun w hw => (HM.out w (p11.below hw.drew) (p12.below hw.drew) (q11.below hw.drew) (q12.below hw.drew)).mono ?_) (by simp only [List.set_cons_succ, List.set_cons_zero]; rfl) ?_
  · rintro e w' ⟨rfl, hb⟩
    exact ⟨rfl, hb⟩
  refine relPure Ext.refl rfl rfl rfl rfl (c := .bool true) (fun w _ => by cases q <;> (go_simp; first | done | rfl)) (by simp only [List.set_cons_succ, List.set_cons_zero]; rfl) ?_
  refine relPick Ext.refl rfl rfl rfl rfl _ _ _ rfl rfl (by conv => lhs; whnf) (by simp only [List.set_cons_succ, List.set_cons_zero]; rfl) ?_
  refine relPick Ext.refl rfl rfl rfl rfl _ _ _ rfl rfl (by conv => lhs; whnf) (by simp only [List.set_cons_succ, List.set_cons_zero]; rfl) ?_
  refine relMove Ext.refl rfl rfl rfl rfl _ (.inl rfl) (by conv => lhs; whnf) (by simp only [List.set_cons_succ, List.set_cons_zero]; rfl) ?_
  refine relMove Ext.refl rfl rfl rfl rfl _ (.inl rfl) (by conv => lhs; whnf) (by simp only [List.set_cons_succ, List.set_cons_zero]; rfl) ?_
  refine relPure Ext.refl rfl rfl rfl rfl (c := .bool true) (fun w _ => by go_simp; first | done | rfl) (by simp only [List.set_cons_succ, List.set_cons_zero]; rfl) ?_
  refine relPure Ext.refl rfl rfl rfl rfl (c := .agg #[.int .u32 (ver : Int), .slice A1 n1 c1, .slice A2 n2 c2, .int .u32 (lock : Int)]) (fun w hw => exec_loadAv (a11.below hw.drew) _ _ rfl rfl _ 4 rfl Tryd.underlying26 rfl (by kernel_rfl)) (by simp only [List.set_cons_succ, List.set_cons_zero]; rfl) ?_
  refine relCall _ rfl rfl rfl 8 #[.agg #[.int .u32 (ver : Int), .slice A1 n1 c1, .slice A2 n2 c2, .int .u32 (lock : Int)]] (fun w => by go_simp) (fun w hw => (HO.out w (p11.below hw.drew) (p12.below hw.drew)).mono ?_) ?_
  · rintro e w' ⟨D1, D2, e1, e2, rfl, _, _, s1, s2, hb⟩
    exact ⟨_, rfl, hb, D1, D2, e1, e2, rfl, s1, s2⟩
  refine relOn rfl rfl (c := .bool true) (fun w hw => fill_take rfl rfl fun u hu => fill_none rfl (relOp_yes rfl ?_)) (by simp only [List.set_cons_succ, List.set_cons_zero]; rfl) ?_
  · obtain ⟨D1, D2, e1, e2, rfl, s1, s2⟩ := hu
    refine relRes_enterT 12 #[.agg #[.int .u32 (ver : Int), .slice D1 n1 e1, .slice D2 n2 e2, .int .u32 (lock : Int)]] (by go_simp) ((HS.out _ _ _ _ w s1 s2).mono ?_)
    rintro e w' ⟨rfl, hb⟩
    exact ⟨rfl, hb⟩
  refine relPure Ext.refl rfl rfl rfl rfl (c := .bool true) (fun w _ => by go_simp; first | done | rfl) (by simp only [List.set_cons_succ, List.set_cons_zero]; rfl) ?_
  refine relPick Ext.refl rfl rfl rfl rfl _ _ _ rfl rfl (by conv => lhs; whnf) (by simp only [List.set_cons_succ, List.set_cons_zero]; rfl) ?_
  refine relEnd fun w14 hw14 => fill_take rfl rfl fun v' hv' => fill_end ?_
  simp only [List.set_cons_succ, List.set_cons_zero, List.drop_succ_cons, List.drop_zero]
  go_wp2
  go_ret
  exact ⟨rfl, bw11.trans (hw14.drew.mono bw11.size)⟩
set_option maxRecDepth 100000 in
set_option maxHeartbeats 8000000 in
theorem ids_true_false (ver lock : Nat) (hv : ver < 4294967296) (hlk : lock < 4294967296) (l : List (TIn × Sl)) (m : List (TOut × Sl)) (A1 A2 : Option Addr) (n1 n2 c1 c2 : Nat) (hn1 : l.length = n1) (hn2 : m.length = n2) (hm1 : n1 ≤ maxLen) (hm2 : n2 ≤ maxLen) (ver' lock' : Nat) (hv' : ver' < 4294967296) (hlk' : lock' < 4294967296) (l' : List (TIn × Sl)) (m' : List (TOut × Sl)) (B1 B2 : Option Addr) (k1 k2 d1 d2 : Nat) (hk1 : l'.length = k1) (hk2 : m'.length = k2) (hp1 : k1 ≤ maxLen) (hp2 : k2 ≤ maxLen) (w : World) (h1 : RdIns w A1 l) (h2 : RdOuts w A2 m) (g1 : RdIns w B1 l') (g2 : RdOuts w B2 m') (ht : Tabs w) (hf : txFew (txOf ver l m lock) = true) (hg : txFew (txOf ver' l' m' lock') = true) (hs : txSane (txOf ver l m lock) = true) (ht2 : txSane (txOf ver' l' m' lock') = false) : Calls Tryd.prog 3 #[.agg #[.int .u32 (ver : Int), .slice A1 n1 c1, .slice A2 n2 c2, .int .u32 (lock : Int)], .agg #[.int .u32 (ver' : Int), .slice B1 k1 d1, .slice B2 k2 d2, .int .u32 (lock' : Int)]] w fun e w' => e = .returned (.bool true) ∧ Below w.heap.size w w' := by
  have hz := zeros_32
  have hzl : (List.replicate 32 (0 : UInt8)).length = 32 := by simp
  obtain ⟨zs, hzs⟩ : ∃ zs : List UInt8, zs = List.replicate 32 0 := ⟨_, rfl⟩
  rw [← hzs] at hz hzl
  have hzz : zeroH = zs := hzs.symm
  clear hzs
  replace hzl := Lib.hid hzl
  obtain ⟨W, hW⟩ : ∃ W, W = (w.alloc (.cells #[.int .u32 (ver : Int), .slice A1 n1 c1, .slice A2 n2 c2, .int .u32 (lock : Int)] 26)).alloc (.cells #[.int .u32 (ver' : Int), .slice B1 k1 d1, .slice B2 k2 d2, .int .u32 (lock' : Int)] 26) := ⟨_, rfl⟩
  obtain ⟨H, hH⟩ : ∃ H, H = w.heap.size := ⟨_, rfl⟩
  have bW : Below w.heap.size w W := by rw [hW]; exact ((Below.refl _ _).alloc (Nat.le_refl _) _).alloc (by simp) _
  have aW : Av W H 26 [.int .u32 (ver : Int), .slice A1 n1 c1, .slice A2 n2 c2, .int .u32 (lock : Int)] := by rw [hW, hH]; exact heap_alloc2_old _ _ _
  have cW : Av W (H + 1) 26 [.int .u32 (ver' : Int), .slice B1 k1 d1, .slice B2 k2 d2, .int .u32 (lock' : Int)] := by rw [hW, hH]; exact heap_alloc2_new _ _ _
  have HA := Lib.hid (awake8 W)
  have HF := fun w' q1 q2 => TFew ver lock l m A1 A2 n1 n2 c1 c2 hn1 hn2 hm1 hm2 w' q1 q2
  have HG := fun w' q1 q2 => TFew ver' lock' l' m' B1 B2 k1 k2 d1 d2 hk1 hk2 hp1 hp2 w' q1 q2
  rw [hf] at HF
  rw [hg] at HG
  obtain ⟨_, _, f1, f2⟩ := (txFew_iff _).1 hf
  obtain ⟨_, _, f3, f4⟩ := (txFew_iff _).1 hg
  simp only [txOf, List.length_map, hn1, hn2] at f1 f2
  simp only [txOf, List.length_map, hk1, hk2] at f3 f4
  have HO := fun w' q1 q2 => TOurs ver lock hv hlk l m A1 A2 n1 n2 c1 c2 hn1 hn2 (by omega) (by omega) w' q1 q2
  have HQ := fun w' q1 q2 => TOurs ver' lock' hv' hlk' l' m' B1 B2 k1 k2 d1 d2 hk1 hk2 (by omega) (by omega) w' q1 q2
  have HS := fun B1 B2 e1 e2 w' q1 q2 => TSane ver lock l m B1 B2 n1 n2 e1 e2 hn1 hn2 w' q1 q2
  rw [hs] at HS
  have HP := fun B1 B2 e1 e2 w' q1 q2 => TPut_ok ver lock hv hlk l m B1 B2 n1 n2 e1 e2 hn1 hn2 w' q1 q2 hs
  have HI := fun B1 B2 e1 e2 w' q1 q2 t => TId_ok ver lock hv hlk l m B1 B2 n1 n2 e1 e2 hn1 hn2 w' q1 q2 t hs
  have hmost := txB_most2 (txOf ver l m lock) hs (by
    intro i hi
    obtain ⟨x, hx, rfl⟩ := List.mem_map.1 hi
    exact (h1.2 x hx).1)
  have HR := fun B1 B2 e1 e2 w' q1 q2 => TPut_bad ver' lock' l' m' B1 B2 k1 k2 e1 e2 hk1 hk2 w' q1 q2 ht2
  obtain ⟨ps, hps⟩ : ∃ ps, ps = txB (txOf ver l m lock) := ⟨_, rfl⟩
  rw [← hps] at HP HI hmost
  obtain ⟨K, hK⟩ : ∃ K, K = ps.length := ⟨_, rfl⟩
  rw [← hK] at hmost
  obtain ⟨dd, hdd⟩ : ∃ l, l = dblB ps := ⟨_, rfl⟩
  have hdl : dd.length = 32 := by rw [hdd, dblB_length]
  have HD := fun A c w' hc q t => Double ps A K c hK.symm hc (by omega) w' q t
  rw [← hdd] at HD HI
  replace HD := Lib.hid HD
  replace hdl := Lib.hid hdl
  replace hdd := Lib.hid hdd
  replace hK := Lib.hid hK
  replace hps := Lib.hid hps
  replace HF := Lib.hid HF
  replace HG := Lib.hid HG
  replace HO := Lib.hid HO
  replace HQ := Lib.hid HQ
  replace HS := Lib.hid HS
  replace HP := Lib.hid HP
  replace HI := Lib.hid HI
  replace HR := Lib.hid HR
  replace hW := Lib.hid hW
  replace hH := Lib.hid hH
  replace hzz := Lib.hid hzz
  replace hn1 := Lib.hid hn1
  replace hn2 := Lib.hid hn2
  replace hk1 := Lib.hid hk1
  replace hk2 := Lib.hid hk2
  clear hf hg hs ht2
  go_enter Tryd.func3, Tryd.ntmps3
  go_upto_region 1 with fail
  rw [← hW.out, ← hH.out]
  go_upto_region 2 with (go_at_call 5; refine (HA.out).mono ?_; rintro e w1 ⟨rfl, b1⟩)
  have bw1 : Below w.heap.size w w1 := bW.trans (b1.mono bW.size)
  have a1 := aW.below b1
  have c1' := cW.below b1
  have p1 := h1.below bw1
  have p2 := h2.below bw1
  have q1 := g1.below bw1
  have q2 := g2.below bw1
  clear HA
  go_upto_region 4 with (first
      | ((with_reducible refine wpList_loadF 26 a1 ?_ _ 4 ?_ Tryd.underlying26 ?_ ?_ ?_); rfl; rfl; rfl; kernel_rfl)
      | (go_at_call 6; refine (HF.out _ p1 p2).mono ?_; rintro e w2 ⟨rfl, b2⟩; clear HF; have c2' := c1'.below b2; have q3 := q1.below b2; have q4 := q2.below b2)
      | ((with_reducible refine wpList_loadFg 26 c2' ?_ ?_ _ 4 ?_ Tryd.underlying26 ?_ ?_ ?_); rfl; rfl; rfl; rfl; kernel_rfl)
      | (go_at_call 6; refine (HG.out _ q3 q4).mono ?_; rintro e w3 ⟨rfl, b3⟩))
  have bw2 := bw1.trans (b2.mono bw1.size)
  have bw3 := bw2.trans (b3.mono bw2.size)
  have a3 := (a1.below b2).below b3
  have c3' := c2'.below b3
  have p3 := h1.below bw3
  have p4 := h2.below bw3
  clear a1 c1' c2' p1 p2 q1 q2 q3 q4 HG
  go_upto_region 5 with (first
    | ((with_reducible refine wpList_loadF 26 a3 ?_ _ 4 ?_ Tryd.underlying26 ?_ ?_ ?_); rfl; rfl; rfl; kernel_rfl)
    | (go_at_call 8; refine (HO.out _ p3 p4).mono ?_; rintro e w4 ⟨D1, D2, e1, e2, rfl, y1, y2, s1, s2, b4⟩)
    | (go_at_call 7; refine (HP.out _ _ _ _ _ s1 s2).mono ?_; rintro e w5 ⟨v5, rfl, ho, b5⟩; obtain ⟨A5, c5, rfl, hc5, _⟩ := ho.formN K hK.out.symm))
  have bw4 := bw3.trans (b4.mono bw3.size)
  have bw5 := bw4.trans (b5.mono bw4.size)
  have a5 := (a3.below b4).below b5
  have c5' := (c3'.below b4).below b5
  have q5 := g1.below bw5
  have q6 := g2.below bw5
  have hr5 := ho.rd
  clear a3 c3' p3 p4 y1 y2 s1 s2 ho
  go_upto_region 6 with (first
    | ((with_reducible refine wpList_loadF 26 c5' ?_ _ 4 ?_ Tryd.underlying26 ?_ ?_ ?_); rfl; rfl; rfl; kernel_rfl)
    | (go_at_call 8; refine (HQ.out _ q5 q6).mono ?_; rintro e w6 ⟨E1, E2, x1, x2, rfl, y1, y2, s1, s2, b6⟩)
    | (go_at_call 7; refine (HR.out _ _ _ _ _ s1 s2).mono ?_; rintro e w7 ⟨rfl, b7⟩))
  have bw6 := bw5.trans (b6.mono bw5.size)
  have bw7 := bw6.trans (b7.mono bw6.size)
  have a7 := (a5.below b6).below b7
  have c7' := (c5'.below b6).below b7
  have p7 := h1.below bw7
  have p8 := h2.below bw7
  have ht7 := ht.below bw7
  have hr7 := (hr5.below b6).below b7
  skip
  clear a5 c5' q5 q6 y1 y2 s1 s2 hr5
  go_upto_region 7 with (first
    | ((with_reducible refine wpList_loadF 26 a7 ?_ _ 4 ?_ Tryd.underlying26 ?_ ?_ ?_); rfl; rfl; rfl; kernel_rfl)
    | (go_at_call 8; refine (HO.out _ p7 p8).mono ?_; rintro e w8 ⟨D1, D2, e1, e2, rfl, y1, y2, s1, s2, b8⟩; have ht8 := ht7.below b8)
    | (go_at_call 9; refine (HI.out _ _ _ _ _ s1 s2 ht8).mono ?_; rintro e w9 ⟨rfl, b9⟩)
    | ((with_reducible refine wpList_storeF 39 ((Below.refl w9.heap.size w9).alloc (Nat.le_refl _) _) (heap_alloc_new _ _) (Nat.le_refl _) (dd.map bv) ?_ ?_ 32 ?_ ?_ ?_ ?_ ?_); rfl; rfl; (rw [List.length_map, hdl.out]); kernel_rfl; (rw [List.size_toArray, List.length_map]; exact hzl.out); (simp [Value.oneCell']); intro w10 g10 b10 k10 z10; clear k10; replace z10 := Lib.hid z10))
  have bw8 := bw7.trans (b8.mono bw7.size)
  have bw9 := bw8.trans (b9.mono bw8.size)
  have bw10 := bw9.trans (b10.mono bw9.size)
  have a10 := ((a7.below b8).below b9).below b10
  have c10' := ((c7'.below b8).below b9).below b10
  have hr10 := ((hr7.below b8).below b9).below b10
  skip
  have hx32 : (dd.map bv).length = 32 := by rw [List.length_map, hdl.out]
  clear a7 c7' p7 p8 ht7 ht8 y1 y2 s1 s2 hr7
  have N1 := Lib.hid (hne1 dd hdl.out)
  go_wp2_with fail
  refine wp_region_rel [] Ext (by kernel_rfl) (by kernel_rfl) (by kernel_rfl) Ext.refl Ext.trans (by intro p hp; cases hp) ?_
  refine relMove Ext.refl rfl rfl rfl rfl _ (.inl rfl) (by conv => lhs; whnf) (by simp only [List.set_cons_succ, List.set_cons_zero]; rfl) ?_
  refine relMove Ext.refl rfl rfl rfl rfl _ (.inl rfl) (by conv => lhs; whnf) (by simp only [List.set_cons_succ, List.set_cons_zero]; rfl) ?_
  refine relPure Ext.refl rfl rfl rfl rfl (c := .bool false) (fun w _ => by go_simp; first | done | rfl) (by simp only [List.set_cons_succ, List.set_cons_zero]; rfl) ?_
  refine relMove Ext.refl rfl rfl rfl rfl _ (.inl rfl) (by conv => lhs; whnf) (by simp only [List.set_cons_succ, List.set_cons_zero]; rfl) ?_
  refine relMove Ext.refl rfl rfl rfl rfl _ (.inl rfl) (by conv => lhs; whnf) (by simp only [List.set_cons_succ, List.set_cons_zero]; rfl) ?_
  refine relPure Ext.refl rfl rfl rfl rfl (c := .bool true) (fun w _ => by go_simp; first | done | rfl) (by simp only [List.set_cons_succ, List.set_cons_zero]; rfl) ?_
  refine relMove Ext.refl rfl rfl rfl rfl _ (.inl rfl) (by conv => lhs; whnf) (by simp only [List.set_cons_succ, List.set_cons_zero]; rfl) ?_
  refine relPure Ext.refl rfl rfl rfl rfl (c := .agg (hcs dd)) (fun w hw => exec_loadAv (g10.below hw.drew) _ _ rfl rfl _ 32 hx32 Tryd.underlying39 rfl (by kernel_rfl)) (by simp only [List.set_cons_succ, List.set_cons_zero]; rfl) ?_
  refine relMove Ext.refl rfl rfl rfl rfl _ (.inl rfl) (by conv => lhs; whnf) (by simp only [List.set_cons_succ, List.set_cons_zero]; rfl) ?_
  refine relCall1 rfl rfl rfl rfl (c := .agg (hcs dd)) 10 #[.slice A5 K c5] (fun w => by go_simp) (fun w hw => (HD.out A5 c5 w hc5 (hr10.below hw.drew) (ht.below (bw10.trans (hw.drew.mono bw10.size)))).mono ?_) (by simp only [List.set_cons_succ, List.set_cons_zero]; rfl) ?_
  · rintro e w' ⟨rfl, hb⟩
    exact ⟨rfl, hb⟩
  refine relBin Ext.refl rfl rfl rfl rfl _ _ _ _ _ rfl (by conv => lhs; whnf) (by conv => lhs; whnf) (c := .bool false) (fun w => N1.out _ _ w) (by simp only [List.set_cons_succ, List.set_cons_zero]; rfl) ?_
  refine relPick Ext.refl rfl rfl rfl rfl _ _ _ rfl rfl (by conv => lhs; whnf) (by simp only [List.set_cons_succ, List.set_cons_zero]; rfl) ?_
  refine relPick Ext.refl rfl rfl rfl rfl _ _ _ rfl rfl (by conv => lhs; whnf) (by simp only [List.set_cons_succ, List.set_cons_zero]; rfl) ?_
  refine relMove Ext.refl rfl rfl rfl rfl _ (.inl rfl) (by conv => lhs; whnf) (by simp only [List.set_cons_succ, List.set_cons_zero]; rfl) ?_
  refine relMove Ext.refl rfl rfl rfl rfl _ (.inl rfl) (by conv => lhs; whnf) (by simp only [List.set_cons_succ, List.set_cons_zero]; rfl) ?_
  refine relPure Ext.refl rfl rfl rfl rfl (c := .bool false) (fun w _ => by go_simp; first | done | rfl) (by simp only [List.set_cons_succ, List.set_cons_zero]; rfl) ?_
  refine relMove Ext.refl rfl rfl rfl rfl _ (.inl rfl) (by conv => lhs; whnf) (by simp only [List.set_cons_succ, List.set_cons_zero]; rfl) ?_
  refine relSkip rfl rfl rfl rfl (by simp only [List.set_cons_succ, List.set_cons_zero]; rfl) ?_
  refine relSkip rfl rfl rfl rfl (by simp only [List.set_cons_succ, List.set_cons_zero]; rfl) ?_
  refine relSkip rfl rfl rfl rfl (by simp only [List.set_cons_succ, List.set_cons_zero]; rfl) ?_
  refine relPick Ext.refl rfl rfl rfl rfl _ _ _ rfl rfl (by conv => lhs; whnf) (by simp only [List.set_cons_succ, List.set_cons_zero]; rfl) ?_
  refine relPick Ext.refl rfl rfl rfl rfl _ _ _ rfl rfl (by conv => lhs; whnf) (by simp only [List.set_cons_succ, List.set_cons_zero]; rfl) ?_
  refine relEnd fun w11 hw11 => fill_end ?_
  have bw11 := bw10.trans (hw11.drew.mono bw10.size)
  have a11 := a10.below hw11.drew
  have c11' := c10'.below hw11.drew
  have hr11 := hr10.below hw11.drew
  have p11 := h1.below bw11
  have p12 := h2.below bw11
  have q11 := g1.below bw11
  have q12 := g2.below bw11
  go_wp2_with fail
  refine wp_region_relT 28 [(24, TxW ver lock n1 n2 l m)] Ext (by kernel_rfl) (by kernel_rfl) (by kernel_rfl) (by kernel_rfl) (by kernel_rfl) Ext.refl Ext.trans (by intro p hp v w w' hR; simp only [List.mem_singleton] at hp; subst hp; exact TxW.mono hR) ?_
  refine relMove Ext.refl rfl rfl rfl rfl _ (.inl rfl) (by conv => lhs; whnf) (by simp only [List.set_cons_succ, List.set_cons_zero]; rfl) ?_
  refine relMove Ext.refl rfl rfl rfl rfl _ (.inl rfl) (by conv => lhs; whnf) (by simp only [List.set_cons_succ, List.set_cons_zero]; rfl) ?_
  refine relMove Ext.refl rfl rfl rfl rfl _ (.inl rfl) (by conv => lhs; whnf) (by simp only [List.set_cons_succ, List.set_cons_zero]; rfl) ?_
  refine relPure Ext.refl rfl rfl rfl rfl (c := .bool false) (fun w _ => by go_simp; first | done | rfl) (by simp only [List.set_cons_succ, List.set_cons_zero]; rfl) ?_
  refine relMove Ext.refl rfl rfl rfl rfl _ (.inl rfl) (by conv => lhs; whnf) (by simp only [List.set_cons_succ, List.set_cons_zero]; rfl) ?_
  refine relMove Ext.refl rfl rfl rfl rfl _ (.inl rfl) (by conv => lhs; whnf) (by simp only [List.set_cons_succ, List.set_cons_zero]; rfl) ?_
  refine relPure Ext.refl rfl rfl rfl rfl (c := .bool true) (fun w _ => by go_simp; first | done | rfl) (by simp only [List.set_cons_succ, List.set_cons_zero]; rfl) ?_
  refine relPick Ext.refl rfl rfl rfl rfl _ _ _ rfl rfl (by conv => lhs; whnf) (by simp only [List.set_cons_succ, List.set_cons_zero]; rfl) ?_
  refine relMove Ext.refl rfl rfl rfl rfl _ (.inl rfl) (by conv => lhs; whnf) (by simp only [List.set_cons_succ, List.set_cons_zero]; rfl) ?_
  refine relSkip rfl rfl rfl rfl (by simp only [List.set_cons_succ, List.set_cons_zero]; rfl) ?_
  refine relSkip rfl rfl rfl rfl (by simp only [List.set_cons_succ, List.set_cons_zero]; rfl) ?_
  refine relSkip rfl rfl rfl rfl (by simp only [List.set_cons_succ, List.set_cons_zero]; rfl) ?_
  refine relSkip rfl rfl rfl rfl (by simp only [List.set_cons_succ, List.set_cons_zero]; rfl) ?_
  refine relSkip rfl rfl rfl rfl (by simp only [List.set_cons_succ, List.set_cons_zero]; rfl) ?_
  refine relSkip rfl rfl rfl rfl (by simp only [List.set_cons_succ, List.set_cons_zero]; rfl) ?_
  refine relSkip rfl rfl rfl rfl (by simp only [List.set_cons_succ, List.set_cons_zero]; rfl) ?_
  refine relSkip rfl rfl rfl rfl (by simp only [List.set_cons_succ, List.set_cons_zero]; rfl) ?_
  refine relSkip rfl rfl rfl rfl (by simp only [List.set_cons_succ, List.set_cons_zero]; rfl) ?_
  refine relPick Ext.refl rfl rfl rfl rfl _ _ _ rfl rfl (by conv => lhs; whnf) (by simp only [List.set_cons_succ, List.set_cons_zero]; rfl) ?_
  refine relPick Ext.refl rfl rfl rfl rfl _ _ _ rfl rfl (by conv => lhs; whnf) (by simp only [List.set_cons_succ, List.set_cons_zero]; rfl) ?_
  refine relMove Ext.refl rfl rfl rfl rfl _ (.inl rfl) (by conv => lhs; whnf) (by simp only [List.set_cons_succ, List.set_cons_zero]; rfl) ?_
  refine relMove Ext.refl rfl rfl rfl rfl _ (.inl rfl) (by conv => lhs; whnf) (by simp only [List.set_cons_succ, List.set_cons_zero]; rfl) ?_
  refine relPure Ext.refl rfl rfl rfl rfl (c := .bool true) (fun w _ => by go_simp; first | done | rfl) (by simp only [List.set_cons_succ, List.set_cons_zero]; rfl) ?_
  refine relPure Ext.refl rfl rfl rfl rfl (c := .agg #[.int .u32 (ver : Int), .slice A1 n1 c1, .slice A2 n2 c2, .int .u32 (lock : Int)]) (fun w hw => exec_loadAv (a11.below hw.drew) _ _ rfl rfl _ 4 rfl Tryd.underlying26 rfl (by kernel_rfl)) (by simp only [List.set_cons_succ, List.set_cons_zero]; rfl) ?_
  refine relCall _ rfl rfl rfl 8 #[.agg #[.int .u32 (ver : Int), .slice A1 n1 c1, .slice A2 n2 c2, .int .u32 (lock : Int)]] (fun w => by go_simp) (fun w hw => (HO.out w (p11.below hw.drew) (p12.below hw.drew)).mono ?_) ?_
  · rintro e w' ⟨D1, D2, e1, e2, rfl, _, _, s1, s2, hb⟩
    exact ⟨_, rfl, hb, D1, D2, e1, e2, rfl, s1, s2⟩
  refine relOn rfl rfl (c := .bool true) (fun w hw => fill_take rfl rfl fun u hu => fill_none rfl (relOp_yes rfl ?_)) (by simp only [List.set_cons_succ, List.set_cons_zero]; rfl) ?_
  · obtain ⟨D1, D2, e1, e2, rfl, s1, s2⟩ := hu
    refine relRes_enterT 12 #[.agg #[.int .u32 (ver : Int), .slice D1 n1 e1, .slice D2 n2 e2, .int .u32 (lock : Int)]] (by go_simp) ((HS.out _ _ _ _ w s1 s2).mono ?_)
    rintro e w' ⟨rfl, hb⟩
    exact ⟨rfl, hb⟩
  refine relPure Ext.refl rfl rfl rfl rfl (c := .bool true) (fun w _ => by go_simp; first | done | rfl) (by simp only [List.set_cons_succ, List.set_cons_zero]; rfl) ?_
  refine relPick Ext.refl rfl rfl rfl rfl _ _ _ rfl rfl (by conv => lhs; whnf) (by simp only [List.set_cons_succ, List.set_cons_zero]; rfl) ?_
  refine relEnd fun w14 hw14 => fill_take rfl rfl fun v' hv' => fill_end ?_
  simp only [List.set_cons_succ, List.set_cons_zero, List.drop_succ_cons, List.drop_zero]
  go_wp2
  go_ret
  exact ⟨rfl, bw11.trans (hw14.drew.mono bw11.size)⟩
set_option maxRecDepth 100000 in
set_option maxHeartbeats 8000000 in
theorem ids_false_true (ver lock : Nat) (hv : ver < 4294967296) (hlk : lock < 4294967296) (l : List (TIn × Sl)) (m : List (TOut × Sl)) (A1 A2 : Option Addr) (n1 n2 c1 c2 : Nat) (hn1 : l.length = n1) (hn2 : m.length = n2) (hm1 : n1 ≤ maxLen) (hm2 : n2 ≤ maxLen) (ver' lock' : Nat) (hv' : ver' < 4294967296) (hlk' : lock' < 4294967296) (l' : List (TIn × Sl)) (m' : List (TOut × Sl)) (B1 B2 : Option Addr) (k1 k2 d1 d2 : Nat) (hk1 : l'.length = k1) (hk2 : m'.length = k2) (hp1 : k1 ≤ maxLen) (hp2 : k2 ≤ maxLen) (w : World) (h1 : RdIns w A1 l) (h2 : RdOuts w A2 m) (g1 : RdIns w B1 l') (g2 : RdOuts w B2 m') (ht : Tabs w) (hf : txFew (txOf ver l m lock) = true) (hg : txFew (txOf ver' l' m' lock') = true) (hs : txSane (txOf ver l m lock) = false) (ht2 : txSane (txOf ver' l' m' lock') = true) : Calls Tryd.prog 3 #[.agg #[.int .u32 (ver : Int), .slice A1 n1 c1, .slice A2 n2 c2, .int .u32 (lock : Int)], .agg #[.int .u32 (ver' : Int), .slice B1 k1 d1, .slice B2 k2 d2, .int .u32 (lock' : Int)]] w fun e w' => e = .returned (.bool true) ∧ Below w.heap.size w w' := by
  have hz := zeros_32
  have hzl : (List.replicate 32 (0 : UInt8)).length = 32 := by simp
  obtain ⟨zs, hzs⟩ : ∃ zs : List UInt8, zs = List.replicate 32 0 := ⟨_, rfl⟩
  rw [← hzs] at hz hzl
  have hzz : zeroH = zs := hzs.symm
  clear hzs
  replace hzl := Lib.hid hzl
  obtain ⟨W, hW⟩ : ∃ W, W = (w.alloc (.cells #[.int .u32 (ver : Int), .slice A1 n1 c1, .slice A2 n2 c2, .int .u32 (lock : Int)] 26)).alloc (.cells #[.int .u32 (ver' : Int), .slice B1 k1 d1, .slice B2 k2 d2, .int .u32 (lock' : Int)] 26) := ⟨_, rfl⟩
  obtain ⟨H, hH⟩ : ∃ H, H = w.heap.size := ⟨_, rfl⟩
  have bW : Below w.heap.size w W := by rw [hW]; exact ((Below.refl _ _).alloc (Nat.le_refl _) _).alloc (by simp) _
  have aW : Av W H 26 [.int .u32 (ver : Int), .slice A1 n1 c1, .slice A2 n2 c2, .int .u32 (lock : Int)] := by rw [hW, hH]; exact heap_alloc2_old _ _ _
  have cW : Av W (H + 1) 26 [.int .u32 (ver' : Int), .slice B1 k1 d1, .slice B2 k2 d2, .int .u32 (lock' : Int)] := by rw [hW, hH]; exact heap_alloc2_new _ _ _
  have HA := Lib.hid (awake8 W)
  have HF := fun w' q1 q2 => TFew ver lock l m A1 A2 n1 n2 c1 c2 hn1 hn2 hm1 hm2 w' q1 q2
  have HG := fun w' q1 q2 => TFew ver' lock' l' m' B1 B2 k1 k2 d1 d2 hk1 hk2 hp1 hp2 w' q1 q2
  rw [hf] at HF
  rw [hg] at HG
  obtain ⟨_, _, f1, f2⟩ := (txFew_iff _).1 hf
  obtain ⟨_, _, f3, f4⟩ := (txFew_iff _).1 hg
  simp only [txOf, List.length_map, hn1, hn2] at f1 f2
  simp only [txOf, List.length_map, hk1, hk2] at f3 f4
  have HO := fun w' q1 q2 => TOurs ver lock hv hlk l m A1 A2 n1 n2 c1 c2 hn1 hn2 (by omega) (by omega) w' q1 q2
  have HQ := fun w' q1 q2 => TOurs ver' lock' hv' hlk' l' m' B1 B2 k1 k2 d1 d2 hk1 hk2 (by omega) (by omega) w' q1 q2
  have HS := fun B1 B2 e1 e2 w' q1 q2 => TSane ver lock l m B1 B2 n1 n2 e1 e2 hn1 hn2 w' q1 q2
  rw [hs] at HS
  have HP := fun B1 B2 e1 e2 w' q1 q2 => TPut_bad ver lock l m B1 B2 n1 n2 e1 e2 hn1 hn2 w' q1 q2 hs
  have HI := fun B1 B2 e1 e2 w' q1 q2 t => TId_bad ver lock hv hlk l m B1 B2 n1 n2 e1 e2 hn1 hn2 w' q1 q2 t hs
  rw [hzz] at HI
  have HR := fun B1 B2 e1 e2 w' q1 q2 => TPut_ok ver' lock' hv' hlk' l' m' B1 B2 k1 k2 e1 e2 hk1 hk2 w' q1 q2 ht2
  obtain ⟨us, hus⟩ : ∃ us, us = txB (txOf ver' l' m' lock') := ⟨_, rfl⟩
  rw [← hus] at HR
  obtain ⟨J, hJ⟩ : ∃ J, J = us.length := ⟨_, rfl⟩
  replace hJ := Lib.hid hJ
  replace hus := Lib.hid hus
  replace HF := Lib.hid HF
  replace HG := Lib.hid HG
  replace HO := Lib.hid HO
  replace HQ := Lib.hid HQ
  replace HS := Lib.hid HS
  replace HP := Lib.hid HP
  replace HI := Lib.hid HI
  replace HR := Lib.hid HR
  replace hW := Lib.hid hW
  replace hH := Lib.hid hH
  replace hzz := Lib.hid hzz
  replace hn1 := Lib.hid hn1
  replace hn2 := Lib.hid hn2
  replace hk1 := Lib.hid hk1
  replace hk2 := Lib.hid hk2
  clear hf hg hs ht2
  go_enter Tryd.func3, Tryd.ntmps3
  go_upto_region 1 with fail
  rw [← hW.out, ← hH.out]
  go_upto_region 2 with (go_at_call 5; refine (HA.out).mono ?_; rintro e w1 ⟨rfl, b1⟩)
  have bw1 : Below w.heap.size w w1 := bW.trans (b1.mono bW.size)
  have a1 := aW.below b1
  have c1' := cW.below b1
  have p1 := h1.below bw1
  have p2 := h2.below bw1
  have q1 := g1.below bw1
  have q2 := g2.below bw1
  clear HA
  go_upto_region 4 with (first
      | ((with_reducible refine wpList_loadF 26 a1 ?_ _ 4 ?_ Tryd.underlying26 ?_ ?_ ?_); rfl; rfl; rfl; kernel_rfl)
      | (go_at_call 6; refine (HF.out _ p1 p2).mono ?_; rintro e w2 ⟨rfl, b2⟩; clear HF; have c2' := c1'.below b2; have q3 := q1.below b2; have q4 := q2.below b2)
      | ((with_reducible refine wpList_loadFg 26 c2' ?_ ?_ _ 4 ?_ Tryd.underlying26 ?_ ?_ ?_); rfl; rfl; rfl; rfl; kernel_rfl)
      | (go_at_call 6; refine (HG.out _ q3 q4).mono ?_; rintro e w3 ⟨rfl, b3⟩))
  have bw2 := bw1.trans (b2.mono bw1.size)
  have bw3 := bw2.trans (b3.mono bw2.size)
  have a3 := (a1.below b2).below b3
  have c3' := c2'.below b3
  have p3 := h1.below bw3
  have p4 := h2.below bw3
  clear a1 c1' c2' p1 p2 q1 q2 q3 q4 HG
  go_upto_region 5 with (first
    | ((with_reducible refine wpList_loadF 26 a3 ?_ _ 4 ?_ Tryd.underlying26 ?_ ?_ ?_); rfl; rfl; rfl; kernel_rfl)
    | (go_at_call 8; refine (HO.out _ p3 p4).mono ?_; rintro e w4 ⟨D1, D2, e1, e2, rfl, y1, y2, s1, s2, b4⟩)
    | (go_at_call 7; refine (HP.out _ _ _ _ _ s1 s2).mono ?_; rintro e w5 ⟨rfl, b5⟩))
  have bw4 := bw3.trans (b4.mono bw3.size)
  have bw5 := bw4.trans (b5.mono bw4.size)
  have a5 := (a3.below b4).below b5
  have c5' := (c3'.below b4).below b5
  have q5 := g1.below bw5
  have q6 := g2.below bw5
  skip
  clear a3 c3' p3 p4 y1 y2 s1 s2
  go_upto_region 6 with (first
    | ((with_reducible refine wpList_loadF 26 c5' ?_ _ 4 ?_ Tryd.underlying26 ?_ ?_ ?_); rfl; rfl; rfl; kernel_rfl)
    | (go_at_call 8; refine (HQ.out _ q5 q6).mono ?_; rintro e w6 ⟨E1, E2, x1, x2, rfl, y1, y2, s1, s2, b6⟩)
    | (go_at_call 7; refine (HR.out _ _ _ _ _ s1 s2).mono ?_; rintro e w7 ⟨v7, rfl, ho7, b7⟩; obtain ⟨A7, c7, rfl, hc7, _⟩ := ho7.formN J hJ.out.symm))
  have bw6 := bw5.trans (b6.mono bw5.size)
  have bw7 := bw6.trans (b7.mono bw6.size)
  have a7 := (a5.below b6).below b7
  have c7' := (c5'.below b6).below b7
  have p7 := h1.below bw7
  have p8 := h2.below bw7
  have ht7 := ht.below bw7
  skip
  have hu7 := ho7.rd
  clear a5 c5' q5 q6 y1 y2 s1 s2 ho7
  go_upto_region 7 with (first
    | ((with_reducible refine wpList_loadF 26 a7 ?_ _ 4 ?_ Tryd.underlying26 ?_ ?_ ?_); rfl; rfl; rfl; kernel_rfl)
    | (go_at_call 8; refine (HO.out _ p7 p8).mono ?_; rintro e w8 ⟨D1, D2, e1, e2, rfl, y1, y2, s1, s2, b8⟩; have ht8 := ht7.below b8)
    | (go_at_call 9; refine (HI.out _ _ _ _ _ s1 s2 ht8).mono ?_; rintro e w9 ⟨rfl, b9⟩)
    | ((with_reducible refine wpList_storeF 39 ((Below.refl w9.heap.size w9).alloc (Nat.le_refl _) _) (heap_alloc_new _ _) (Nat.le_refl _) (zs.map bv) ?_ ?_ 32 ?_ ?_ ?_ ?_ ?_); rfl; rfl; (rw [List.length_map, hzl.out]); kernel_rfl; (rw [List.size_toArray, List.length_map]; exact hzl.out); (simp [Value.oneCell']); intro w10 g10 b10 k10 z10; clear k10; replace z10 := Lib.hid z10))
  have bw8 := bw7.trans (b8.mono bw7.size)
  have bw9 := bw8.trans (b9.mono bw8.size)
  have bw10 := bw9.trans (b10.mono bw9.size)
  have a10 := ((a7.below b8).below b9).below b10
  have c10' := ((c7'.below b8).below b9).below b10
  skip
  have hu10 := ((hu7.below b8).below b9).below b10
  have hx32 : (zs.map bv).length = 32 := by rw [List.length_map, hzl.out]
  clear a7 c7' p7 p8 ht7 ht8 y1 y2 s1 s2 hu7
  have N1 := Lib.hid (hne1 zs hzl.out)
  go_wp2_with fail
  refine wp_region_rel [] Ext (by kernel_rfl) (by kernel_rfl) (by kernel_rfl) Ext.refl Ext.trans (by intro p hp; cases hp) ?_
  refine relMove Ext.refl rfl rfl rfl rfl _ (.inl rfl) (by conv => lhs; whnf) (by simp only [List.set_cons_succ, List.set_cons_zero]; rfl) ?_
  refine relMove Ext.refl rfl rfl rfl rfl _ (.inl rfl) (by conv => lhs; whnf) (by simp only [List.set_cons_succ, List.set_cons_zero]; rfl) ?_
  refine relPure Ext.refl rfl rfl rfl rfl (c := .bool false) (fun w _ => by go_simp; first | done | rfl) (by simp only [List.set_cons_succ, List.set_cons_zero]; rfl) ?_
  refine relMove Ext.refl rfl rfl rfl rfl _ (.inl rfl) (by conv => lhs; whnf) (by simp only [List.set_cons_succ, List.set_cons_zero]; rfl) ?_
  refine relMove Ext.refl rfl rfl rfl rfl _ (.inl rfl) (by conv => lhs; whnf) (by simp only [List.set_cons_succ, List.set_cons_zero]; rfl) ?_
  refine relPure Ext.refl rfl rfl rfl rfl (c := .bool false) (fun w _ => by go_simp; first | done | rfl) (by simp only [List.set_cons_succ, List.set_cons_zero]; rfl) ?_
  refine relMove Ext.refl rfl rfl rfl rfl _ (.inl rfl) (by conv => lhs; whnf) (by simp only [List.set_cons_succ, List.set_cons_zero]; rfl) ?_
  refine relSkip rfl rfl rfl rfl (by simp only [List.set_cons_succ, List.set_cons_zero]; rfl) ?_
  refine relSkip rfl rfl rfl rfl (by simp only [List.set_cons_succ, List.set_cons_zero]; rfl) ?_
  refine relSkip rfl rfl rfl rfl (by simp only [List.set_cons_succ, List.set_cons_zero]; rfl) ?_
  refine relSkip rfl rfl rfl rfl (by simp only [List.set_cons_succ, List.set_cons_zero]; rfl) ?_
  refine relPick Ext.refl rfl rfl rfl rfl _ _ _ rfl rfl (by conv => lhs; whnf) (by simp only [List.set_cons_succ, List.set_cons_zero]; rfl) ?_
  refine relPick Ext.refl rfl rfl rfl rfl _ _ _ rfl rfl (by conv => lhs; whnf) (by simp only [List.set_cons_succ, List.set_cons_zero]; rfl) ?_
  refine relMove Ext.refl rfl rfl rfl rfl _ (.inl rfl) (by conv => lhs; whnf) (by simp only [List.set_cons_succ, List.set_cons_zero]; rfl) ?_
  refine relMove Ext.refl rfl rfl rfl rfl _ (.inl rfl) (by conv => lhs; whnf) (by simp only [List.set_cons_succ, List.set_cons_zero]; rfl) ?_
  refine relPure Ext.refl rfl rfl rfl rfl (c := .bool true) (fun w _ => by go_simp; first | done | rfl) (by simp only [List.set_cons_succ, List.set_cons_zero]; rfl) ?_
  refine relMove Ext.refl rfl rfl rfl rfl _ (.inl rfl) (by conv => lhs; whnf) (by simp only [List.set_cons_succ, List.set_cons_zero]; rfl) ?_
  refine relPure Ext.refl rfl rfl rfl rfl (c := .agg (hcs zs)) (fun w hw => exec_loadAv (g10.below hw.drew) _ _ rfl rfl _ 32 hx32 Tryd.underlying39 rfl (by kernel_rfl)) (by simp only [List.set_cons_succ, List.set_cons_zero]; rfl) ?_
  refine relPure Ext.refl rfl rfl rfl rfl (c := .agg (hcs zs)) (fun w _ => by go_simp; first | done | rfl) (by simp only [List.set_cons_succ, List.set_cons_zero]; rfl) ?_
  refine relBin Ext.refl rfl rfl rfl rfl _ _ _ _ _ rfl (by conv => lhs; whnf) (by conv => lhs; whnf) (c := .bool false) (fun w => N1.out _ _ w) (by simp only [List.set_cons_succ, List.set_cons_zero]; rfl) ?_
  refine relPick Ext.refl rfl rfl rfl rfl _ _ _ rfl rfl (by conv => lhs; whnf) (by simp only [List.set_cons_succ, List.set_cons_zero]; rfl) ?_
  refine relPick Ext.refl rfl rfl rfl rfl _ _ _ rfl rfl (by conv => lhs; whnf) (by simp only [List.set_cons_succ, List.set_cons_zero]; rfl) ?_
  refine relEnd fun w11 hw11 => fill_end ?_
  have bw11 := bw10.trans (hw11.drew.mono bw10.size)
  have a11 := a10.below hw11.drew
  have c11' := c10'.below hw11.drew
  have hu11 := hu10.below hw11.drew
  have p11 := h1.below bw11
  have p12 := h2.below bw11
  have q11 := g1.below bw11
  have q12 := g2.below bw11
  go_wp2_with fail
  refine wp_region_relT 28 [(24, TxW ver lock n1 n2 l m)] Ext (by kernel_rfl) (by kernel_rfl) (by kernel_rfl) (by kernel_rfl) (by kernel_rfl) Ext.refl Ext.trans (by intro p hp v w w' hR; simp only [List.mem_singleton] at hp; subst hp; exact TxW.mono hR) ?_
  refine relMove Ext.refl rfl rfl rfl rfl _ (.inl rfl) (by conv => lhs; whnf) (by simp only [List.set_cons_succ, List.set_cons_zero]; rfl) ?_
  refine relMove Ext.refl rfl rfl rfl rfl _ (.inl rfl) (by conv => lhs; whnf) (by simp only [List.set_cons_succ, List.set_cons_zero]; rfl) ?_
  refine relMove Ext.refl rfl rfl rfl rfl _ (.inl rfl) (by conv => lhs; whnf) (by simp only [List.set_cons_succ, List.set_cons_zero]; rfl) ?_
  refine relPure Ext.refl rfl rfl rfl rfl (c := .bool true) (fun w _ => by go_simp; first | done | rfl) (by simp only [List.set_cons_succ, List.set_cons_zero]; rfl) ?_
  refine relMove Ext.refl rfl rfl rfl rfl _ (.inl rfl) (by conv => lhs; whnf) (by simp only [List.set_cons_succ, List.set_cons_zero]; rfl) ?_
  refine relSkip rfl rfl rfl rfl (by simp only [List.set_cons_succ, List.set_cons_zero]; rfl) ?_
  refine relSkip rfl rfl rfl rfl (by simp only [List.set_cons_succ, List.set_cons_zero]; rfl) ?_
  refine relPick Ext.refl rfl rfl rfl rfl _ _ _ rfl rfl (by conv => lhs; whnf) (by simp only [List.set_cons_succ, List.set_cons_zero]; rfl) ?_
  refine relMove Ext.refl rfl rfl rfl rfl _ (.inl rfl) (by conv => lhs; whnf) (by simp only [List.set_cons_succ, List.set_cons_zero]; rfl) ?_
  refine relSkip rfl rfl rfl rfl (by simp only [List.set_cons_succ, List.set_cons_zero]; rfl) ?_
  refine relSkip rfl rfl rfl rfl (by simp only [List.set_cons_succ, List.set_cons_zero]; rfl) ?_
  refine relSkip rfl rfl rfl rfl (by simp only [List.set_cons_succ, List.set_cons_zero]; rfl) ?_
  refine relSkip rfl rfl rfl rfl (by simp only [List.set_cons_succ, List.set_cons_zero]; rfl) ?_
  refine relSkip rfl rfl rfl rfl (by simp only [List.set_cons_succ, List.set_cons_zero]; rfl) ?_
  refine relSkip rfl rfl rfl rfl (by simp only [List.set_cons_succ, List.set_cons_zero]; rfl) ?_
  refine relSkip rfl rfl rfl rfl (by simp only [List.set_cons_succ, List.set_cons_zero]; rfl) ?_
  refine relSkip rfl rfl rfl rfl (by simp only [List.set_cons_succ, List.set_cons_zero]; rfl) ?_
  refine relSkip rfl rfl rfl rfl (by simp only [List.set_cons_succ, List.set_cons_zero]; rfl) ?_
  refine relPick Ext.refl rfl rfl rfl rfl _ _ _ rfl rfl (by conv => lhs; whnf) (by simp only [List.set_cons_succ, List.set_cons_zero]; rfl) ?_
  refine relPick Ext.refl rfl rfl rfl rfl _ _ _ rfl rfl (by conv => lhs; whnf) (by simp only [List.set_cons_succ, List.set_cons_zero]; rfl) ?_
  refine relMove Ext.refl rfl rfl rfl rfl _ (.inl rfl) (by conv => lhs; whnf) (by simp only [List.set_cons_succ, List.set_cons_zero]; rfl) ?_
  refine relMove Ext.refl rfl rfl rfl rfl _ (.inl rfl) (by conv => lhs; whnf) (by simp only [List.set_cons_succ, List.set_cons_zero]; rfl) ?_
  refine relPure Ext.refl rfl rfl rfl rfl (c := .bool false) (fun w _ => by go_simp; first | done | rfl) (by simp only [List.set_cons_succ, List.set_cons_zero]; rfl) ?_
  refine relPure Ext.refl rfl rfl rfl rfl (c := .agg #[.int .u32 (ver : Int), .slice A1 n1 c1, .slice A2 n2 c2, .int .u32 (lock : Int)]) (fun w hw => exec_loadAv (a11.below hw.drew) _ _ rfl rfl _ 4 rfl Tryd.underlying26 rfl (by kernel_rfl)) (by simp only [List.set_cons_succ, List.set_cons_zero]; rfl) ?_
  refine relCall _ rfl rfl rfl 8 #[.agg #[.int .u32 (ver : Int), .slice A1 n1 c1, .slice A2 n2 c2, .int .u32 (lock : Int)]] (fun w => by go_simp) (fun w hw => (HO.out w (p11.below hw.drew) (p12.below hw.drew)).mono ?_) ?_
  · rintro e w' ⟨D1, D2, e1, e2, rfl, _, _, s1, s2, hb⟩
    exact ⟨_, rfl, hb, D1, D2, e1, e2, rfl, s1, s2⟩
  refine relOn rfl rfl (c := .bool false) (fun w hw => fill_take rfl rfl fun u hu => fill_none rfl (relOp_yes rfl ?_)) (by simp only [List.set_cons_succ, List.set_cons_zero]; rfl) ?_
  · obtain ⟨D1, D2, e1, e2, rfl, s1, s2⟩ := hu
    refine relRes_enterT 12 #[.agg #[.int .u32 (ver : Int), .slice D1 n1 e1, .slice D2 n2 e2, .int .u32 (lock : Int)]] (by go_simp) ((HS.out _ _ _ _ w s1 s2).mono ?_)
    rintro e w' ⟨rfl, hb⟩
    exact ⟨rfl, hb⟩
  refine relPure Ext.refl rfl rfl rfl rfl (c := .bool true) (fun w _ => by go_simp; first | done | rfl) (by simp only [List.set_cons_succ, List.set_cons_zero]; rfl) ?_
  refine relPick Ext.refl rfl rfl rfl rfl _ _ _ rfl rfl (by conv => lhs; whnf) (by simp only [List.set_cons_succ, List.set_cons_zero]; rfl) ?_
  refine relEnd fun w14 hw14 => fill_take rfl rfl fun v' hv' => fill_end ?_
  simp only [List.set_cons_succ, List.set_cons_zero, List.drop_succ_cons, List.drop_zero]
  go_wp2
  go_ret
  exact ⟨rfl, bw11.trans (hw14.drew.mono bw11.size)⟩
set_option maxRecDepth 100000 in
set_option maxHeartbeats 8000000 in
theorem ids_false_false (ver lock : Nat) (hv : ver < 4294967296) (hlk : lock < 4294967296) (l : List (TIn × Sl)) (m : List (TOut × Sl)) (A1 A2 : Option Addr) (n1 n2 c1 c2 : Nat) (hn1 : l.length = n1) (hn2 : m.length = n2) (hm1 : n1 ≤ maxLen) (hm2 : n2 ≤ maxLen) (ver' lock' : Nat) (hv' : ver' < 4294967296) (hlk' : lock' < 4294967296) (l' : List (TIn × Sl)) (m' : List (TOut × Sl)) (B1 B2 : Option Addr) (k1 k2 d1 d2 : Nat) (hk1 : l'.length = k1) (hk2 : m'.length = k2) (hp1 : k1 ≤ maxLen) (hp2 : k2 ≤ maxLen) (w : World) (h1 : RdIns w A1 l) (h2 : RdOuts w A2 m) (g1 : RdIns w B1 l') (g2 : RdOuts w B2 m') (ht : Tabs w) (hf : txFew (txOf ver l m lock) = true) (hg : txFew (txOf ver' l' m' lock') = true) (hs : txSane (txOf ver l m lock) = false) (ht2 : txSane (txOf ver' l' m' lock') = false) : Calls Tryd.prog 3 #[.agg #[.int .u32 (ver : Int), .slice A1 n1 c1, .slice A2 n2 c2, .int .u32 (lock : Int)], .agg #[.int .u32 (ver' : Int), .slice B1 k1 d1, .slice B2 k2 d2, .int .u32 (lock' : Int)]] w fun e w' => e = .returned (.bool true) ∧ Below w.heap.size w w' := by
  have hz := zeros_32
  have hzl : (List.replicate 32 (0 : UInt8)).length = 32 := by simp
  obtain ⟨zs, hzs⟩ : ∃ zs : List UInt8, zs = List.replicate 32 0 := ⟨_, rfl⟩
  rw [← hzs] at hz hzl
  have hzz : zeroH = zs := hzs.symm
  clear hzs
  replace hzl := Lib.hid hzl
  obtain ⟨W, hW⟩ : ∃ W, W = (w.alloc (.cells #[.int .u32 (ver : Int), .slice A1 n1 c1, .slice A2 n2 c2, .int .u32 (lock : Int)] 26)).alloc (.cells #[.int .u32 (ver' : Int), .slice B1 k1 d1, .slice B2 k2 d2, .int .u32 (lock' : Int)] 26) := ⟨_, rfl⟩
  obtain ⟨H, hH⟩ : ∃ H, H = w.heap.size := ⟨_, rfl⟩
  have bW : Below w.heap.size w W := by rw [hW]; exact ((Below.refl _ _).alloc (Nat.le_refl _) _).alloc (by simp) _
  have aW : Av W H 26 [.int .u32 (ver : Int), .slice A1 n1 c1, .slice A2 n2 c2, .int .u32 (lock : Int)] := by rw [hW, hH]; exact heap_alloc2_old _ _ _
  have cW : Av W (H + 1) 26 [.int .u32 (ver' : Int), .slice B1 k1 d1, .slice B2 k2 d2, .int .u32 (lock' : Int)] := by rw [hW, hH]; exact heap_alloc2_new _ _ _
  have HA := Lib.hid (awake8 W)
  have HF := fun w' q1 q2 => TFew ver lock l m A1 A2 n1 n2 c1 c2 hn1 hn2 hm1 hm2 w' q1 q2
  have HG := fun w' q1 q2 => TFew ver' lock' l' m' B1 B2 k1 k2 d1 d2 hk1 hk2 hp1 hp2 w' q1 q2
  rw [hf] at HF
  rw [hg] at HG
  obtain ⟨_, _, f1, f2⟩ := (txFew_iff _).1 hf
  obtain ⟨_, _, f3, f4⟩ := (txFew_iff _).1 hg
  simp only [txOf, List.length_map, hn1, hn2] at f1 f2
  simp only [txOf, List.length_map, hk1, hk2] at f3 f4
  have HO := fun w' q1 q2 => TOurs ver lock hv hlk l m A1 A2 n1 n2 c1 c2 hn1 hn2 (by omega) (by omega) w' q1 q2
  have HQ := fun w' q1 q2 => TOurs ver' lock' hv' hlk' l' m' B1 B2 k1 k2 d1 d2 hk1 hk2 (by omega) (by omega) w' q1 q2
  have HS := fun B1 B2 e1 e2 w' q1 q2 => TSane ver lock l m B1 B2 n1 n2 e1 e2 hn1 hn2 w' q1 q2
  rw [hs] at HS
  have HP := fun B1 B2 e1 e2 w' q1 q2 => TPut_bad ver lock l m B1 B2 n1 n2 e1 e2 hn1 hn2 w' q1 q2 hs
  have HI := fun B1 B2 e1 e2 w' q1 q2 t => TId_bad ver lock hv hlk l m B1 B2 n1 n2 e1 e2 hn1 hn2 w' q1 q2 t hs
  rw [hzz] at HI
  have HR := fun B1 B2 e1 e2 w' q1 q2 => TPut_bad ver' lock' l' m' B1 B2 k1 k2 e1 e2 hk1 hk2 w' q1 q2 ht2
  replace HF := Lib.hid HF
  replace HG := Lib.hid HG
  replace HO := Lib.hid HO
  replace HQ := Lib.hid HQ
  replace HS := Lib.hid HS
  replace HP := Lib.hid HP
  replace HI := Lib.hid HI
  replace HR := Lib.hid HR
  replace hW := Lib.hid hW
  replace hH := Lib.hid hH
  replace hzz := Lib.hid hzz
  replace hn1 := Lib.hid hn1
  replace hn2 := Lib.hid hn2
  replace hk1 := Lib.hid hk1
  replace hk2 := Lib.hid hk2
  clear hf hg hs ht2
  go_enter Tryd.func3, Tryd.ntmps3
  go_upto_region 1 with fail
  rw [← hW.out, ← hH.out]
  go_upto_region 2 with (go_at_call 5; refine (HA.out).mono ?_; rintro e w1 ⟨rfl, b1⟩)
  have bw1 : Below w.heap.size w w1 := bW.trans (b1.mono bW.size)
  have a1 := aW.below b1
  have c1' := cW.below b1
  have p1 := h1.below bw1
  have p2 := h2.below bw1
  have q1 := g1.below bw1
  have q2 := g2.below bw1
  clear HA
  go_upto_region 4 with (first
      | ((with_reducible refine wpList_loadF 26 a1 ?_ _ 4 ?_ Tryd.underlying26 ?_ ?_ ?_); rfl; rfl; rfl; kernel_rfl)
      | (go_at_call 6; refine (HF.out _ p1 p2).mono ?_; rintro e w2 ⟨rfl, b2⟩; clear HF; have c2' := c1'.below b2; have q3 := q1.below b2; have q4 := q2.below b2)
      | ((with_reducible refine wpList_loadFg 26 c2' ?_ ?_ _ 4 ?_ Tryd.underlying26 ?_ ?_ ?_); rfl; rfl; rfl; rfl; kernel_rfl)
      | (go_at_call 6; refine (HG.out _ q3 q4).mono ?_; rintro e w3 ⟨rfl, b3⟩))
  have bw2 := bw1.trans (b2.mono bw1.size)
  have bw3 := bw2.trans (b3.mono bw2.size)
  have a3 := (a1.below b2).below b3
  have c3' := c2'.below b3
  have p3 := h1.below bw3
  have p4 := h2.below bw3
  clear a1 c1' c2' p1 p2 q1 q2 q3 q4 HG
  go_upto_region 5 with (first
    | ((with_reducible refine wpList_loadF 26 a3 ?_ _ 4 ?_ Tryd.underlying26 ?_ ?_ ?_); rfl; rfl; rfl; kernel_rfl)
    | (go_at_call 8; refine (HO.out _ p3 p4).mono ?_; rintro e w4 ⟨D1, D2, e1, e2, rfl, y1, y2, s1, s2, b4⟩)
    | (go_at_call 7; refine (HP.out _ _ _ _ _ s1 s2).mono ?_; rintro e w5 ⟨rfl, b5⟩))
  have bw4 := bw3.trans (b4.mono bw3.size)
  have bw5 := bw4.trans (b5.mono bw4.size)
  have a5 := (a3.below b4).below b5
  have c5' := (c3'.below b4).below b5
  have q5 := g1.below bw5
  have q6 := g2.below bw5
  skip
  clear a3 c3' p3 p4 y1 y2 s1 s2
  go_upto_region 6 with (first
    | ((with_reducible refine wpList_loadF 26 c5' ?_ _ 4 ?_ Tryd.underlying26 ?_ ?_ ?_); rfl; rfl; rfl; kernel_rfl)
    | (go_at_call 8; refine (HQ.out _ q5 q6).mono ?_; rintro e w6 ⟨E1, E2, x1, x2, rfl, y1, y2, s1, s2, b6⟩)
    | (go_at_call 7; refine (HR.out _ _ _ _ _ s1 s2).mono ?_; rintro e w7 ⟨rfl, b7⟩))
  have bw6 := bw5.trans (b6.mono bw5.size)
  have bw7 := bw6.trans (b7.mono bw6.size)
  have a7 := (a5.below b6).below b7
  have c7' := (c5'.below b6).below b7
  have p7 := h1.below bw7
  have p8 := h2.below bw7
  have ht7 := ht.below bw7
  skip
  skip
  clear a5 c5' q5 q6 y1 y2 s1 s2
  go_upto_region 7 with (first
    | ((with_reducible refine wpList_loadF 26 a7 ?_ _ 4 ?_ Tryd.underlying26 ?_ ?_ ?_); rfl; rfl; rfl; kernel_rfl)
    | (go_at_call 8; refine (HO.out _ p7 p8).mono ?_; rintro e w8 ⟨D1, D2, e1, e2, rfl, y1, y2, s1, s2, b8⟩; have ht8 := ht7.below b8)
    | (go_at_call 9; refine (HI.out _ _ _ _ _ s1 s2 ht8).mono ?_; rintro e w9 ⟨rfl, b9⟩)
    | ((with_reducible refine wpList_storeF 39 ((Below.refl w9.heap.size w9).alloc (Nat.le_refl _) _) (heap_alloc_new _ _) (Nat.le_refl _) (zs.map bv) ?_ ?_ 32 ?_ ?_ ?_ ?_ ?_); rfl; rfl; (rw [List.length_map, hzl.out]); kernel_rfl; (rw [List.size_toArray, List.length_map]; exact hzl.out); (simp [Value.oneCell']); intro w10 g10 b10 k10 z10; clear k10; replace z10 := Lib.hid z10))
  have bw8 := bw7.trans (b8.mono bw7.size)
  have bw9 := bw8.trans (b9.mono bw8.size)
  have bw10 := bw9.trans (b10.mono bw9.size)
  have a10 := ((a7.below b8).below b9).below b10
  have c10' := ((c7'.below b8).below b9).below b10
  skip
  skip
  have hx32 : (zs.map bv).length = 32 := by rw [List.length_map, hzl.out]
  clear a7 c7' p7 p8 ht7 ht8 y1 y2 s1 s2
  have N1 := Lib.hid (hne1 zs hzl.out)
  go_wp2_with fail
  refine wp_region_rel [] Ext (by kernel_rfl) (by kernel_rfl) (by kernel_rfl) Ext.refl Ext.trans (by intro p hp; cases hp) ?_
  refine relMove Ext.refl rfl rfl rfl rfl _ (.inl rfl) (by conv => lhs; whnf) (by simp only [List.set_cons_succ, List.set_cons_zero]; rfl) ?_
  refine relMove Ext.refl rfl rfl rfl rfl _ (.inl rfl) (by conv => lhs; whnf) (by simp only [List.set_cons_succ, List.set_cons_zero]; rfl) ?_
  refine relPure Ext.refl rfl rfl rfl rfl (c := .bool false) (fun w _ => by go_simp; first | done | rfl) (by simp only [List.set_cons_succ, List.set_cons_zero]; rfl) ?_
  refine relMove Ext.refl rfl rfl rfl rfl _ (.inl rfl) (by conv => lhs; whnf) (by simp only [List.set_cons_succ, List.set_cons_zero]; rfl) ?_
  refine relMove Ext.refl rfl rfl rfl rfl _ (.inl rfl) (by conv => lhs; whnf) (by simp only [List.set_cons_succ, List.set_cons_zero]; rfl) ?_
  refine relPure Ext.refl rfl rfl rfl rfl (c := .bool false) (fun w _ => by go_simp; first | done | rfl) (by simp only [List.set_cons_succ, List.set_cons_zero]; rfl) ?_
  refine relMove Ext.refl rfl rfl rfl rfl _ (.inl rfl) (by conv => lhs; whnf) (by simp only [List.set_cons_succ, List.set_cons_zero]; rfl) ?_
  refine relSkip rfl rfl rfl rfl (by simp only [List.set_cons_succ, List.set_cons_zero]; rfl) ?_
  refine relSkip rfl rfl rfl rfl (by simp only [List.set_cons_succ, List.set_cons_zero]; rfl) ?_
  refine relSkip rfl rfl rfl rfl (by simp only [List.set_cons_succ, List.set_cons_zero]; rfl) ?_
  refine relSkip rfl rfl rfl rfl (by simp only [List.set_cons_succ, List.set_cons_zero]; rfl) ?_
  refine relPick Ext.refl rfl rfl rfl rfl _ _ _ rfl rfl (by conv => lhs; whnf) (by simp only [List.set_cons_succ, List.set_cons_zero]; rfl) ?_
  refine relPick Ext.refl rfl rfl rfl rfl _ _ _ rfl rfl (by conv => lhs; whnf) (by simp only [List.set_cons_succ, List.set_cons_zero]; rfl) ?_
  refine relMove Ext.refl rfl rfl rfl rfl _ (.inl rfl) (by conv => lhs; whnf) (by simp only [List.set_cons_succ, List.set_cons_zero]; rfl) ?_
  refine relMove Ext.refl rfl rfl rfl rfl _ (.inl rfl) (by conv => lhs; whnf) (by simp only [List.set_cons_succ, List.set_cons_zero]; rfl) ?_
  refine relPure Ext.refl rfl rfl rfl rfl (c := .bool true) (fun w _ => by go_simp; first | done | rfl) (by simp only [List.set_cons_succ, List.set_cons_zero]; rfl) ?_
  refine relMove Ext.refl rfl rfl rfl rfl _ (.inl rfl) (by conv => lhs; whnf) (by simp only [List.set_cons_succ, List.set_cons_zero]; rfl) ?_
  refine relPure Ext.refl rfl rfl rfl rfl (c := .agg (hcs zs)) (fun w hw => exec_loadAv (g10.below hw.drew) _ _ rfl rfl _ 32 hx32 Tryd.underlying39 rfl (by kernel_rfl)) (by simp only [List.set_cons_succ, List.set_cons_zero]; rfl) ?_
  refine relPure Ext.refl rfl rfl rfl rfl (c := .agg (hcs zs)) (fun w _ => by go_simp; first | done | rfl) (by simp only [List.set_cons_succ, List.set_cons_zero]; rfl) ?_
  refine relBin Ext.refl rfl rfl rfl rfl _ _ _ _ _ rfl (by conv => lhs; whnf) (by conv => lhs; whnf) (c := .bool false) (fun w => N1.out _ _ w) (by simp only [List.set_cons_succ, List.set_cons_zero]; rfl) ?_
  refine relPick Ext.refl rfl rfl rfl rfl _ _ _ rfl rfl (by conv => lhs; whnf) (by simp only [List.set_cons_succ, List.set_cons_zero]; rfl) ?_
  refine relPick Ext.refl rfl rfl rfl rfl _ _ _ rfl rfl (by conv => lhs; whnf) (by simp only [List.set_cons_succ, List.set_cons_zero]; rfl) ?_
  refine relEnd fun w11 hw11 => fill_end ?_
  have bw11 := bw10.trans (hw11.drew.mono bw10.size)
  have a11 := a10.below hw11.drew
  have c11' := c10'.below hw11.drew
  have p11 := h1.below bw11
  have p12 := h2.below bw11
  have q11 := g1.below bw11
  have q12 := g2.below bw11
  go_wp2_with fail
  refine wp_region_relT 28 [(24, TxW ver lock n1 n2 l m)] Ext (by kernel_rfl) (by kernel_rfl) (by kernel_rfl) (by kernel_rfl) (by kernel_rfl) Ext.refl Ext.trans (by intro p hp v w w' hR; simp only [List.mem_singleton] at hp; subst hp; exact TxW.mono hR) ?_
  refine relMove Ext.refl rfl rfl rfl rfl _ (.inl rfl) (by conv => lhs; whnf) (by simp only [List.set_cons_succ, List.set_cons_zero]; rfl) ?_
  refine relMove Ext.refl rfl rfl rfl rfl _ (.inl rfl) (by conv => lhs; whnf) (by simp only [List.set_cons_succ, List.set_cons_zero]; rfl) ?_
  refine relMove Ext.refl rfl rfl rfl rfl _ (.inl rfl) (by conv => lhs; whnf) (by simp only [List.set_cons_succ, List.set_cons_zero]; rfl) ?_
  refine relPure Ext.refl rfl rfl rfl rfl (c := .bool true) (fun w _ => by go_simp; first | done | rfl) (by simp only [List.set_cons_succ, List.set_cons_zero]; rfl) ?_
  refine relMove Ext.refl rfl rfl rfl rfl _ (.inl rfl) (by conv => lhs; whnf) (by simp only [List.set_cons_succ, List.set_cons_zero]; rfl) ?_
  refine relSkip rfl rfl rfl rfl (by simp only [List.set_cons_succ, List.set_cons_zero]; rfl) ?_
  refine relSkip rfl rfl rfl rfl (by simp only [List.set_cons_succ, List.set_cons_zero]; rfl) ?_
  refine relPick Ext.refl rfl rfl rfl rfl _ _ _ rfl rfl (by conv => lhs; whnf) (by simp only [List.set_cons_succ, List.set_cons_zero]; rfl) ?_
  refine relMove Ext.refl rfl rfl rfl rfl _ (.inl rfl) (by conv => lhs; whnf) (by simp only [List.set_cons_succ, List.set_cons_zero]; rfl) ?_
  refine relSkip rfl rfl rfl rfl (by simp only [List.set_cons_succ, List.set_cons_zero]; rfl) ?_
  refine relSkip rfl rfl rfl rfl (by simp only [List.set_cons_succ, List.set_cons_zero]; rfl) ?_
  refine relSkip rfl rfl rfl rfl (by simp only [List.set_cons_succ, List.set_cons_zero]; rfl) ?_
  refine relSkip rfl rfl rfl rfl (by simp only [List.set_cons_succ, List.set_cons_zero]; rfl) ?_
  refine relSkip rfl rfl rfl rfl (by simp only [List.set_cons_succ, List.set_cons_zero]; rfl) ?_
  refine relSkip rfl rfl rfl rfl (by simp only [List.set_cons_succ, List.set_cons_zero]; rfl) ?_
  refine relSkip rfl rfl rfl rfl (by simp only [List.set_cons_succ, List.set_cons_zero]; rfl) ?_
  refine relSkip rfl rfl rfl rfl (by simp only [List.set_cons_succ, List.set_cons_zero]; rfl) ?_
  refine relSkip rfl rfl rfl rfl (by simp only [List.set_cons_succ, List.set_cons_zero]; rfl) ?_
  refine relPick Ext.refl rfl rfl rfl rfl _ _ _ rfl rfl (by conv => lhs; whnf) (by simp only [List.set_cons_succ, List.set_cons_zero]; rfl) ?_
  refine relPick Ext.refl rfl rfl rfl rfl _ _ _ rfl rfl (by conv => lhs; whnf) (by simp only [List.set_cons_succ, List.set_cons_zero]; rfl) ?_
  refine relMove Ext.refl rfl rfl rfl rfl _ (.inl rfl) (by conv => lhs; whnf) (by simp only [List.set_cons_succ, List.set_cons_zero]; rfl) ?_
  refine relMove Ext.refl rfl rfl rfl rfl _ (.inl rfl) (by conv => lhs; whnf) (by simp only [List.set_cons_succ, List.set_cons_zero]; rfl) ?_
  refine relPure Ext.refl rfl rfl rfl rfl (c := .bool false) (fun w _ => by go_simp; first | done | rfl) (by simp only [List.set_cons_succ, List.set_cons_zero]; rfl) ?_
  refine relPure Ext.refl rfl rfl rfl rfl (c := .agg #[.int .u32 (ver : Int), .slice A1 n1 c1, .slice A2 n2 c2, .int .u32 (lock : Int)]) (fun w hw => exec_loadAv (a11.below hw.drew) _ _ rfl rfl _ 4 rfl Tryd.underlying26 rfl (by kernel_rfl)) (by simp only [List.set_cons_succ, List.set_cons_zero]; rfl) ?_
  refine relCall _ rfl rfl rfl 8 #[.agg #[.int .u32 (ver : Int), .slice A1 n1 c1, .slice A2 n2 c2, .int .u32 (lock : Int)]] (fun w => by go_simp) (fun w hw => (HO.out w (p11.below hw.drew) (p12.below hw.drew)).mono ?_) ?_
  · rintro e w' ⟨D1, D2, e1, e2, rfl, _, _, s1, s2, hb⟩
    exact ⟨_, rfl, hb, D1, D2, e1, e2, rfl, s1, s2⟩
  refine relOn rfl rfl (c := .bool false) (fun w hw => fill_take rfl rfl fun u hu => fill_none rfl (relOp_yes rfl ?_)) (by simp only [List.set_cons_succ, List.set_cons_zero]; rfl) ?_
  · obtain ⟨D1, D2, e1, e2, rfl, s1, s2⟩ := hu
    refine relRes_enterT 12 #[.agg #[.int .u32 (ver : Int), .slice D1 n1 e1, .slice D2 n2 e2, .int .u32 (lock : Int)]] (by go_simp) ((HS.out _ _ _ _ w s1 s2).mono ?_)
    rintro e w' ⟨rfl, hb⟩
    exact ⟨rfl, hb⟩
  refine relPure Ext.refl rfl rfl rfl rfl (c := .bool true) (fun w _ => by go_simp; first | done | rfl) (by simp only [List.set_cons_succ, List.set_cons_zero]; rfl) ?_
  refine relPick Ext.refl rfl rfl rfl rfl _ _ _ rfl rfl (by conv => lhs; whnf) (by simp only [List.set_cons_succ, List.set_cons_zero]; rfl) ?_
  refine relEnd fun w14 hw14 => fill_take rfl rfl fun v' hv' => fill_end ?_
  simp only [List.set_cons_succ, List.set_cons_zero, List.drop_succ_cons, List.drop_zero]
  go_wp2
  go_ret
  exact ⟨rfl, bw11.trans (hw14.drew.mono bw11.size)⟩
theorem law_TxIds (ver lock : Nat) (hv : ver < 4294967296) (hlk : lock < 4294967296) (l : List (TIn × Sl)) (m : List (TOut × Sl)) (A1 A2 : Option Addr) (n1 n2 c1 c2 : Nat) (hn1 : l.length = n1) (hn2 : m.length = n2) (hm1 : n1 ≤ maxLen) (hm2 : n2 ≤ maxLen) (ver' lock' : Nat) (hv' : ver' < 4294967296) (hlk' : lock' < 4294967296) (l' : List (TIn × Sl)) (m' : List (TOut × Sl)) (B1 B2 : Option Addr) (k1 k2 d1 d2 : Nat) (hk1 : l'.length = k1) (hk2 : m'.length = k2) (hp1 : k1 ≤ maxLen) (hp2 : k2 ≤ maxLen) (w : World) (h1 : RdIns w A1 l) (h2 : RdOuts w A2 m) (g1 : RdIns w B1 l') (g2 : RdOuts w B2 m') (ht : Tabs w) : Calls Tryd.prog 3 #[.agg #[.int .u32 (ver : Int), .slice A1 n1 c1, .slice A2 n2 c2, .int .u32 (lock : Int)], .agg #[.int .u32 (ver' : Int), .slice B1 k1 d1, .slice B2 k2 d2, .int .u32 (lock' : Int)]] w fun e w' => e = .returned (.bool true) ∧ Below w.heap.size w w' := by
  cases hf : txFew (txOf ver l m lock)
  · exact ids_long ver lock hv hlk l m A1 A2 n1 n2 c1 c2 hn1 hn2 hm1 hm2 ver' lock' hv' hlk' l' m' B1 B2 k1 k2 d1 d2 hk1 hk2 hp1 hp2 w h1 h2 g1 g2 (.inl hf)
  · cases hg : txFew (txOf ver' l' m' lock')
    · exact ids_long ver lock hv hlk l m A1 A2 n1 n2 c1 c2 hn1 hn2 hm1 hm2 ver' lock' hv' hlk' l' m' B1 B2 k1 k2 d1 d2 hk1 hk2 hp1 hp2 w h1 h2 g1 g2 (.inr hg)
    · cases hs : txSane (txOf ver l m lock) <;> cases ht2 : txSane (txOf ver' l' m' lock')
      · exact ids_false_false ver lock hv hlk l m A1 A2 n1 n2 c1 c2 hn1 hn2 hm1 hm2 ver' lock' hv' hlk' l' m' B1 B2 k1 k2 d1 d2 hk1 hk2 hp1 hp2 w h1 h2 g1 g2 ht hf hg hs ht2
      · exact ids_false_true ver lock hv hlk l m A1 A2 n1 n2 c1 c2 hn1 hn2 hm1 hm2 ver' lock' hv' hlk' l' m' B1 B2 k1 k2 d1 d2 hk1 hk2 hp1 hp2 w h1 h2 g1 g2 ht hf hg hs ht2
      · exact ids_true_false ver lock hv hlk l m A1 A2 n1 n2 c1 c2 hn1 hn2 hm1 hm2 ver' lock' hv' hlk' l' m' B1 B2 k1 k2 d1 d2 hk1 hk2 hp1 hp2 w h1 h2 g1 g2 ht hf hg hs ht2
      · exact ids_true_true ver lock hv hlk l m A1 A2 n1 n2 c1 c2 hn1 hn2 hm1 hm2 ver' lock' hv' hlk' l' m' B1 B2 k1 k2 d1 d2 hk1 hk2 hp1 hp2 w h1 h2 g1 g2 ht hf hg hs ht2
end Go.Proofs.YtopgljkfoogihaaDoor
