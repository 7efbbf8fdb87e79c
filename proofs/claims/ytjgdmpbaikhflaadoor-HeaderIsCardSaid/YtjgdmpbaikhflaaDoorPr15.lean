/- HdQ; HdS: put together for the claim. -/
import Derived.Test.YtjgdmpbaikhflaaDoorPr6
import Derived.Test.YtjgdmpbaikhflaaDoorPr9
import Derived.Test.YtjgdmpbaikhflaaDoorBld
import Derived.Test.YtjgdmpbaikhflaaDoorHdL
/- Headers compared. -/
namespace Go.Proofs.YtjgdmpbaikhflaaDoor
open Go.RowKit
theorem part_u32 (xs : Array Value) (off : Nat) (v : Value) (h : xs[off]? = some v) (w : World) : (part 22 xs off).run Tryd.prog w = .ok v w := by
  simp [part, isAgg, run_underlying Tryd.underlying22, h]
theorem sizeOf_h (w : World) : (sizeOf 24).run Tryd.prog w = .ok 32 w := by
  obtain ⟨i0, hi, hz⟩ := Option.map_eq_some_iff.1 (show (Tryd.prog.info? 24).map (·.size) = some 32 by kernel_rfl)
  simp [sizeOf, typeInfo, hi, hz]
theorem part_h (xs : Array Value) (off : Nat) (v : Array Value) (h : xs.extract off (off + 32) = v) (w : World) : (part 24 xs off).run Tryd.prog w = .ok (.agg v) w := by
  simp [part, isAgg, run_underlying Tryd.underlying24, h]
theorem hdc_x1 {h : Hd} (k : h.ok) : (hdc h).toArray.extract 1 33 = hcs h.prev := by
  rw [List.extract_toArray, hcs]
  congr 1
  rw [List.extract_eq_take_drop, show (hdc h).drop 1 = h.prev.map bv ++ (h.root.map bv ++ [.int .u32 (h.time : Int), .int .u32 (h.bits : Int), .int .u32 (h.nonce : Int)]) from rfl]
  rw [List.take_append_of_le_length (by simp [k.2.1]), List.take_of_length_le (by simp [k.2.1])]
theorem hdc_x2 {h : Hd} (k : h.ok) : (hdc h).toArray.extract 33 65 = hcs h.root := by
  rw [List.extract_toArray, hcs]
  congr 1
  rw [List.extract_eq_take_drop, show hdc h = ([.int .u32 (h.ver : Int)] ++ h.prev.map bv) ++ (h.root.map bv ++ [.int .u32 (h.time : Int), .int .u32 (h.bits : Int), .int .u32 (h.nonce : Int)]) by simp [hdc]]
  rw [List.drop_left' (by simp [k.2.1]), List.take_append_of_le_length (by simp [k.2.2.1]), List.take_of_length_le (by simp [k.2.2.1])]
theorem eqFields_cons {P : Program} (d : Nat) (xs ys : Array Value) (f : Field) (fs : List Field) (w : World) (hn : (f.name == "_") = false) {t o : Nat} (ht : f.type = t) (ho : f.offset = o) (a b : Value) (r : Bool) (ha : (part t xs o).run P w = .ok a w) (hb : (part t ys o).run P w = .ok b w)
    (hr : (Op.equalIn d t a b).run P w = .ok r w) (R : Bool) (hR : (Op.eqFields d xs ys fs).run P w = .ok R w) : (Op.eqFields d xs ys (f :: fs)).run P w = .ok (r && R) w := by
  subst ht ho
  rw [Op.eqFields, if_pos (by simpa using hn), Sem.run_bind, ha, Result.andThen_ok, Sem.run_bind, hb, Result.andThen_ok, Sem.run_bind, hr, Result.andThen_ok]
  cases r
  · simp
  · simpa using hR
set_option maxRecDepth 100000 in
theorem eqInHd {x y : Hd} (hx : x.ok) (hy : y.ok) (w : World) : (Op.equalIn 10000 26 (.agg (hdc x).toArray) (.agg (hdc y).toArray)).run Tryd.prog w = .ok (decide (x = y)) w := by
  obtain ⟨x0, x3, x4, x5⟩ := hdc_at hx
  obtain ⟨y0, y3, y4, y5⟩ := hdc_at hy
  have p : ∀ (z : Hd) (i : Nat) (v : Value), (hdc z)[i]? = some v → (hdc z).toArray[i]? = some v := fun z i v h => by simpa using h
  have q1 := run_equalIn_bytes w 9997 24 5 32 Tryd.underlying24 Tryd.underlying5 sizeOf_u8 x.prev y.prev hx.2.1 hy.2.1
  have q2 := run_equalIn_bytes w 9997 24 5 32 Tryd.underlying24 Tryd.underlying5 sizeOf_u8 x.root y.root hx.2.2.1 hy.2.2.1
  have qi := fun (a b : Nat) => run_equalIn_int (P := Tryd.prog) w 9998 22 .u32 .u32 (a : Int) (b : Int) Tryd.underlying22
  have e0 := run_equalIn_struct (P := Tryd.prog) w 9999 26 (hdc x).toArray (hdc y).toArray (by kernel_rfl) (by kernel_rfl)
  have hf : (Tryd.prog.fieldsOf 26).toList.map (fun f => ((f.name == "_"), f.type, f.offset)) = [(false, 22, 0), (false, 24, 1), (false, 24, 33), (false, 22, 65), (false, 22, 66), (false, 22, 67)] := by kernel_rfl
  generalize (Tryd.prog.fieldsOf 26).toList = fs at hf e0
  have hl : fs.length = 6 := by simpa using congrArg List.length hf
  have hfs : ∃ f0 f1 f2 f3 f4 f5, fs = [f0, f1, f2, f3, f4, f5] := by
    match fs, hl with
    | [a, b, c, d, e, f], _ => exact ⟨a, b, c, d, e, f, rfl⟩
  obtain ⟨f0, f1, f2, f3, f4, f5, rfl⟩ := hfs
  · clear hl
    simp only [List.map_cons, List.map_nil, List.cons.injEq, Prod.mk.injEq, and_true] at hf
    obtain ⟨⟨a0, b0, c0⟩, ⟨a1, b1, c1⟩, ⟨a2, b2, c2⟩, ⟨a3, b3, c3⟩, ⟨a4, b4, c4⟩, ⟨a5, b5, c5⟩⟩ := hf
    refine e0.trans ?_
    refine (eqFields_cons 9999 _ _ f0 _ w a0 b0 c0 _ _ _ (part_u32 _ _ _ (p x _ _ x0) w) (part_u32 _ _ _ (p y _ _ y0) w) (qi _ _) _
      (eqFields_cons 9999 _ _ f1 _ w a1 b1 c1 _ _ _ (part_h _ _ _ (hdc_x1 hx) w) (part_h _ _ _ (hdc_x1 hy) w) q1 _
      (eqFields_cons 9999 _ _ f2 _ w a2 b2 c2 _ _ _ (part_h _ _ _ (hdc_x2 hx) w) (part_h _ _ _ (hdc_x2 hy) w) q2 _
      (eqFields_cons 9999 _ _ f3 _ w a3 b3 c3 _ _ _ (part_u32 _ _ _ (p x _ _ x3) w) (part_u32 _ _ _ (p y _ _ y3) w) (qi _ _) _
      (eqFields_cons 9999 _ _ f4 _ w a4 b4 c4 _ _ _ (part_u32 _ _ _ (p x _ _ x4) w) (part_u32 _ _ _ (p y _ _ y4) w) (qi _ _) _
      (eqFields_cons 9999 _ _ f5 _ w a5 b5 c5 _ _ _ (part_u32 _ _ _ (p x _ _ x5) w) (part_u32 _ _ _ (p y _ _ y5) w) (qi _ _) true rfl)))))).trans ?_
    congr 1
    rw [Bool.eq_iff_iff]
    cases x
    cases y
    simp only [Bool.and_eq_true, beq_iff_eq, decide_eq_true_eq, Hd.mk.injEq, Int.natCast_inj]
    simp
theorem eqlHdg {x y : Hd} (hx : x.ok) (hy : y.ok) (p q : Operand) (w : World) : (do eqGuard .eql 26 p q (.agg (hdc x).toArray) (.agg (hdc y).toArray); binOp .eql 26 (.agg (hdc x).toArray) (.agg (hdc y).toArray) : Sem Value).run Tryd.prog w = .ok (.bool (decide (x = y))) w := by
  rw [Sem.run_bind, show (eqGuard .eql 26 p q (.agg (hdc x).toArray) (.agg (hdc y).toArray)).run Tryd.prog w = .ok () w by go_simp, Result.andThen_ok, run_eql_struct, eqInHd hx hy]
  rfl
theorem neqHdg {x y : Hd} (hx : x.ok) (hy : y.ok) (p q : Operand) (w : World) : (do eqGuard .neq 26 p q (.agg (hdc x).toArray) (.agg (hdc y).toArray); binOp .neq 26 (.agg (hdc x).toArray) (.agg (hdc y).toArray) : Sem Value).run Tryd.prog w = .ok (.bool (!decide (x = y))) w := by
  rw [Sem.run_bind, show (eqGuard .neq 26 p q (.agg (hdc x).toArray) (.agg (hdc y).toArray)).run Tryd.prog w = .ok () w by go_simp, Result.andThen_ok, run_neq_struct, eqInHd hx hy]
  rfl
end Go.Proofs.YtjgdmpbaikhflaaDoor
/- florinref07.Same. -/
namespace Go.Proofs.YtjgdmpbaikhflaaDoor
open Go.RowKit
theorem take_step {α : Type} {a b : List α} {k : Nat} {x y : α} (hx : a[k]? = some x) (hy : b[k]? = some y) (h : a.take k = b.take k) (e : x = y) : a.take (k + 1) = b.take (k + 1) := by
  rw [List.take_add_one, List.take_add_one, h, hx, hy, e]
set_option maxRecDepth 10000 in
set_option maxHeartbeats 1000000 in
theorem SameHd (a b : List Hd) (A B : Option Addr) (n m ca cb : Nat) (hna : a.length = n) (hnb : b.length = m) (hn : n ≤ 1000000) (hm : m ≤ 1000000) (w : World) (ra : RdHds w A a) (rb : RdHds w B b) :
    Calls Tryd.prog 19 #[.slice A n ca, .slice B m cb] w fun e w' => e = .returned (.bool (decide (a = b))) ∧ Below w.heap.size w w' := by
  by_cases hnm : n = m
  · subst hnm
    have t0 : ((n : Int) != (n : Int)) = false := by simp
    replace hna := Lib.hid hna
    replace hnb := Lib.hid hnb
    go_enter Tryd.func19, Tryd.ntmps19
    go_wp2
    go_loopw [5] (fun i wr => ∃ k : Nat, k ≤ n ∧ i = .int .i64 (k : Int) ∧ Hid (a.take k = b.take k) ∧ Below w.heap.size w wr) (fun i _ => n - (intOf i).toNat)
    case atStart => exact ⟨0, by omega, rfl, Lib.hid (by simp), Below.refl _ _⟩
    case round =>
      obtain ⟨k, hk, rfl, htk, hbw⟩ := hrel
      by_cases hlt : k < n
      · have t1 : decide ((k : Int) < (n : Int)) = true := by simp; omega
        obtain ⟨ba, oa, rfl⟩ := ra.adr (by rw [hna.out]; omega)
        obtain ⟨bb, ob, rfl⟩ := rb.adr (by rw [hnb.out]; omega)
        obtain ⟨x, hx⟩ : ∃ x, a[k]? = some x := ⟨_, List.getElem?_eq_getElem (by rw [hna.out]; exact hlt)⟩
        obtain ⟨y, hy⟩ : ∃ y, b[k]? = some y := ⟨_, List.getElem?_eq_getElem (by rw [hnb.out]; exact hlt)⟩
        have xok := (ra.nth k x hx).2
        have yok := (rb.nth k y hy).2
        have G1 := Lib.hid (fun w' (h : Below w.heap.size w w') => ((ra.below h).nth k x hx).1)
        have G2 := Lib.hid (fun w' (h : Below w.heap.size w w') => ((rb.below h).nth k y hy).1)
        have x68 := hdc_length xok
        have y68 := hdc_length yok
        have NH := fun p q w => neqHdg xok yok p q w
        obtain ⟨q, hq⟩ : ∃ q, q = decide (x = y) := ⟨_, rfl⟩
        rw [← hq] at NH
        replace NH := Lib.hid NH
        have n0 : 0 ≤ (k : Int) := by omega
        have n1 : (k : Int) < (n : Int) := by omega
        replace hx := Lib.hid hx
        replace hy := Lib.hid hy
        replace hq := Lib.hid hq
        go_wp2_with fail
        have H1 : ∀ w', Ext wr.drew w' → Below w.heap.size w w' := fun w' hE => hbw.trans (hE.drew.mono hbw.size)
        refine wp_region_rel [] Ext (by kernel_rfl) (by kernel_rfl) (by kernel_rfl) Ext.refl Ext.trans (by intro p hp; cases hp) ?_
        refine relMove Ext.refl rfl rfl rfl rfl _ (.inl rfl) (by conv => lhs; whnf) (by simp only [List.set_cons_succ, List.set_cons_zero]; rfl) ?_
        refine relMove Ext.refl rfl rfl rfl rfl _ (.inl rfl) (by conv => lhs; whnf) (by simp only [List.set_cons_succ, List.set_cons_zero]; rfl) ?_
        refine relPure Ext.refl rfl rfl rfl rfl (fun w _ => by go_simp; first | done | rfl) (by simp only [List.set_cons_succ, List.set_cons_zero]; rfl) ?_
        refine relPure Ext.refl rfl rfl rfl rfl (c := .agg (hdc x).toArray) (fun w hw => exec_load_mid _ _ rfl ba (oa + k * 68) rfl (hdc x) _ (G1.out _ (H1 w hw)) Tryd.underlying26 rfl (by rw [x68]; kernel_rfl)) (by simp only [List.set_cons_succ, List.set_cons_zero]; rfl) ?_
        refine relMove Ext.refl rfl rfl rfl rfl _ (.inl rfl) (by conv => lhs; whnf) (by simp only [List.set_cons_succ, List.set_cons_zero]; rfl) ?_
        refine relMove Ext.refl rfl rfl rfl rfl _ (.inl rfl) (by conv => lhs; whnf) (by simp only [List.set_cons_succ, List.set_cons_zero]; rfl) ?_
        refine relPure Ext.refl rfl rfl rfl rfl (fun w _ => by go_simp; first | done | rfl) (by simp only [List.set_cons_succ, List.set_cons_zero]; rfl) ?_
        refine relPure Ext.refl rfl rfl rfl rfl (c := .agg (hdc y).toArray) (fun w hw => exec_load_mid _ _ rfl bb (ob + k * 68) rfl (hdc y) _ (G2.out _ (H1 w hw)) Tryd.underlying26 rfl (by rw [y68]; kernel_rfl)) (by simp only [List.set_cons_succ, List.set_cons_zero]; rfl) ?_
        refine relBin Ext.refl rfl rfl rfl rfl _ _ _ _ _ rfl (by conv => lhs; whnf) (by conv => lhs; whnf) (c := .bool (!q)) (fun w => NH.out _ _ w) (by simp only [List.set_cons_succ, List.set_cons_zero]; rfl) ?_
        refine relEnd fun w2 hw2 => fill_end ?_
        have hb2 := H1 w2 hw2
        cases q
        · go_wp2
          go_ret
          refine ⟨?_, hb2⟩
          have hne : x ≠ y := fun e => by have := hq.out; rw [decide_eq_true e] at this; cases this
          rw [decide_eq_false (fun e => hne (by have h1 := hx.out; have h2 := hy.out; rw [e, h2] at h1; exact (Option.some.inj h1).symm))]
          rfl
        · go_wp2
          refine ⟨⟨k + 1, by omega, by go_num, Lib.hid (take_step hx.out hy.out htk.out (of_decide_eq_true hq.out.symm)), hb2⟩, ?_⟩
          simp [intOf]; omega
      · obtain rfl : k = n := by omega
        have t1 : decide ((k : Int) < (k : Int)) = false := by simp
        go_wp2
        go_ret
        refine ⟨?_, hbw⟩
        have h := htk.out
        rw [List.take_of_length_le (by rw [hna.out]; omega), List.take_of_length_le (by rw [hnb.out]; omega)] at h
        rw [decide_eq_true h]
        rfl
  · have t1 : ((n : Int) != (m : Int)) = true := by simp; omega
    rw [decide_eq_false (fun e => hnm (by rw [← hna, ← hnb, e]))]
    replace hna := Lib.hid hna
    replace hnb := Lib.hid hnb
    go_enter Tryd.func19, Tryd.ntmps19
    go_wp2
    go_ret
    exact ⟨rfl, Below.refl _ _⟩
end Go.Proofs.YtjgdmpbaikhflaaDoor
