/- Bt; HdQ; HdG; HdY: put together for the claim. -/
import Derived.Laws.BitsLemmas
import Derived.Test.YtjgdmpbaikhflaaDoorHdM
import Derived.Test.YtjgdmpbaikhflaaDoorEqh
import Derived.Test.YtjgdmpbaikhflaaDoorBld
import Derived.Test.YtjgdmpbaikhflaaDoorHdN
import Derived.Test.YtjgdmpbaikhflaaDoorAw7
/- 'k & 0xffff'. -/
namespace Go.Proofs.YtjgdmpbaikhflaaDoor
open Go
theorem and_ffff (n : Int) : bits .and .i64 n 65535 = n % 65536 := by
  have h127 : (BitVec.ofInt 64 65535).toNat = 2 ^ 16 - 1 := by decide
  have key : (BitVec.ofInt 64 n &&& BitVec.ofInt 64 65535).toNat = (n % ((2 ^ 64 : Nat) : Int)).toNat % 2 ^ 16 := by
    rw [BitVec.toNat_and, BitVec.toNat_ofInt, h127, Nat.and_two_pow_sub_one_eq_mod]
  show IntKind.i64.wrap ((BitVec.ofInt 64 n &&& BitVec.ofInt 64 65535).toNat : Nat) = n % 65536
  rw [key, IntKind.wrap_i64]
  omega
/-- an index out of whatever number -/
theorem and_ffff_at (n : Int) (K : Nat) (hK : 0 < K) : ∃ (q : Int) (i : Nat), bits .and .i64 n 65535 = q ∧ 0 ≤ q ∧ q % (K : Int) = (i : Int) ∧ q.tmod (K : Int) = (i : Int) ∧ i < K := by
  have h0 : 0 ≤ n % 65536 := Int.emod_nonneg _ (by decide)
  have h1 : 0 ≤ (n % 65536) % (K : Int) := Int.emod_nonneg _ (by omega)
  have h2 : (n % 65536) % (K : Int) < K := Int.emod_lt_of_pos _ (by omega)
  refine ⟨_, ((n % 65536) % (K : Int)).toNat, and_ffff n, h0, by omega, ?_, by omega⟩
  rw [Int.tmod_eq_emod_of_nonneg h0]
  omega
end Go.Proofs.YtjgdmpbaikhflaaDoor
/- Headers compared. -/
namespace Go.Proofs.YtjgdmpbaikhflaaDoor
open Go.RowKit
theorem part_u32 (xs : Array Value) (off : Nat) (v : Value) (h : xs[off]? = some v) (w : World) : (part 22 xs off).run Tryd.prog w = .ok v w := by
  simp [part, isAgg, run_underlying Tryd.underlying22, h]
theorem sizeOf_h (w : World) : (sizeOf 24).run Tryd.prog w = .ok 32 w := by
  obtain ⟨i0, hi, hz⟩ := Option.map_eq_some_iff.1 (show (Tryd.prog.info? 24).map (·.size) = some 32 by kernel_rfl)
  simp [sizeOf, typeInfo, hi, hz]
theorem part_h (xs : Array Value) (off : Nat) (v : Array Value) (h : xs.extract off (off + 32) = v) (w : World) : (part 24 xs off).run Tryd.prog w = .ok (.agg v) w := by
  simp [part, isAgg, run_underlying Tryd.underlying24, h]
theorem hdc_x1 {h : Hd} (k : h.ok) : (hdc h).toArray.extract 1 33 = hcs h.prev := by
  rw [List.extract_toArray, hcs]
  congr 1
  rw [List.extract_eq_take_drop, show (hdc h).drop 1 = h.prev.map bv ++ (h.root.map bv ++ [.int .u32 (h.time : Int), .int .u32 (h.bits : Int), .int .u32 (h.nonce : Int)]) from rfl]
  rw [List.take_append_of_le_length (by simp [k.2.1]), List.take_of_length_le (by simp [k.2.1])]
theorem hdc_x2 {h : Hd} (k : h.ok) : (hdc h).toArray.extract 33 65 = hcs h.root := by
  rw [List.extract_toArray, hcs]
  congr 1
  rw [List.extract_eq_take_drop, show hdc h = ([.int .u32 (h.ver : Int)] ++ h.prev.map bv) ++ (h.root.map bv ++ [.int .u32 (h.time : Int), .int .u32 (h.bits : Int), .int .u32 (h.nonce : Int)]) by simp [hdc]]
  rw [List.drop_left' (by simp [k.2.1]), List.take_append_of_le_length (by simp [k.2.2.1]), List.take_of_length_le (by simp [k.2.2.1])]
theorem eqFields_cons {P : Program} (d : Nat) (xs ys : Array Value) (f : Field) (fs : List Field) (w : World) (hn : (f.name == "_") = false) {t o : Nat} (ht : f.type = t) (ho : f.offset = o) (a b : Value) (r : Bool) (ha : (part t xs o).run P w = .ok a w) (hb : (part t ys o).run P w = .ok b w)
    (hr : (Op.equalIn d t a b).run P w = .ok r w) (R : Bool) (hR : (Op.eqFields d xs ys fs).run P w = .ok R w) : (Op.eqFields d xs ys (f :: fs)).run P w = .ok (r && R) w := by
  subst ht ho
  rw [Op.eqFields, if_pos (by simpa using hn), Sem.run_bind, ha, Result.andThen_ok, Sem.run_bind, hb, Result.andThen_ok, Sem.run_bind, hr, Result.andThen_ok]
  cases r
  · simp
  · simpa using hR
set_option maxRecDepth 100000 in
theorem eqInHd {x y : Hd} (hx : x.ok) (hy : y.ok) (w : World) : (Op.equalIn 10000 26 (.agg (hdc x).toArray) (.agg (hdc y).toArray)).run Tryd.prog w = .ok (decide (x = y)) w := by
  obtain ⟨x0, x3, x4, x5⟩ := hdc_at hx
  obtain ⟨y0, y3, y4, y5⟩ := hdc_at hy
  have p : ∀ (z : Hd) (i : Nat) (v : Value), (hdc z)[i]? = some v → (hdc z).toArray[i]? = some v := fun z i v h => by simpa using h
  have q1 := run_equalIn_bytes w 9997 24 5 32 Tryd.underlying24 Tryd.underlying5 sizeOf_u8 x.prev y.prev hx.2.1 hy.2.1
  have q2 := run_equalIn_bytes w 9997 24 5 32 Tryd.underlying24 Tryd.underlying5 sizeOf_u8 x.root y.root hx.2.2.1 hy.2.2.1
  have qi := fun (a b : Nat) => run_equalIn_int (P := Tryd.prog) w 9998 22 .u32 .u32 (a : Int) (b : Int) Tryd.underlying22
  have e0 := run_equalIn_struct (P := Tryd.prog) w 9999 26 (hdc x).toArray (hdc y).toArray (by kernel_rfl) (by kernel_rfl)
  have hf : (Tryd.prog.fieldsOf 26).toList.map (fun f => ((f.name == "_"), f.type, f.offset)) = [(false, 22, 0), (false, 24, 1), (false, 24, 33), (false, 22, 65), (false, 22, 66), (false, 22, 67)] := by kernel_rfl
  generalize (Tryd.prog.fieldsOf 26).toList = fs at hf e0
  have hl : fs.length = 6 := by simpa using congrArg List.length hf
  have hfs : ∃ f0 f1 f2 f3 f4 f5, fs = [f0, f1, f2, f3, f4, f5] := by
    match fs, hl with
    | [a, b, c, d, e, f], _ => exact ⟨a, b, c, d, e, f, rfl⟩
  obtain ⟨f0, f1, f2, f3, f4, f5, rfl⟩ := hfs
  · clear hl
    simp only [List.map_cons, List.map_nil, List.cons.injEq, Prod.mk.injEq, and_true] at hf
    obtain ⟨⟨a0, b0, c0⟩, ⟨a1, b1, c1⟩, ⟨a2, b2, c2⟩, ⟨a3, b3, c3⟩, ⟨a4, b4, c4⟩, ⟨a5, b5, c5⟩⟩ := hf
    refine e0.trans ?_
    refine (eqFields_cons 9999 _ _ f0 _ w a0 b0 c0 _ _ _ (part_u32 _ _ _ (p x _ _ x0) w) (part_u32 _ _ _ (p y _ _ y0) w) (qi _ _) _
      (eqFields_cons 9999 _ _ f1 _ w a1 b1 c1 _ _ _ (part_h _ _ _ (hdc_x1 hx) w) (part_h _ _ _ (hdc_x1 hy) w) q1 _
      (eqFields_cons 9999 _ _ f2 _ w a2 b2 c2 _ _ _ (part_h _ _ _ (hdc_x2 hx) w) (part_h _ _ _ (hdc_x2 hy) w) q2 _
      (eqFields_cons 9999 _ _ f3 _ w a3 b3 c3 _ _ _ (part_u32 _ _ _ (p x _ _ x3) w) (part_u32 _ _ _ (p y _ _ y3) w) (qi _ _) _
      (eqFields_cons 9999 _ _ f4 _ w a4 b4 c4 _ _ _ (part_u32 _ _ _ (p x _ _ x4) w) (part_u32 _ _ _ (p y _ _ y4) w) (qi _ _) _
      (eqFields_cons 9999 _ _ f5 _ w a5 b5 c5 _ _ _ (part_u32 _ _ _ (p x _ _ x5) w) (part_u32 _ _ _ (p y _ _ y5) w) (qi _ _) true rfl)))))).trans ?_
    congr 1
    rw [Bool.eq_iff_iff]
    cases x
    cases y
    simp only [Bool.and_eq_true, beq_iff_eq, decide_eq_true_eq, Hd.mk.injEq, Int.natCast_inj]
    simp
theorem eqlHdg {x y : Hd} (hx : x.ok) (hy : y.ok) (p q : Operand) (w : World) : (do eqGuard .eql 26 p q (.agg (hdc x).toArray) (.agg (hdc y).toArray); binOp .eql 26 (.agg (hdc x).toArray) (.agg (hdc y).toArray) : Sem Value).run Tryd.prog w = .ok (.bool (decide (x = y))) w := by
  rw [Sem.run_bind, show (eqGuard .eql 26 p q (.agg (hdc x).toArray) (.agg (hdc y).toArray)).run Tryd.prog w = .ok () w by go_simp, Result.andThen_ok, run_eql_struct, eqInHd hx hy]
  rfl
theorem neqHdg {x y : Hd} (hx : x.ok) (hy : y.ok) (p q : Operand) (w : World) : (do eqGuard .neq 26 p q (.agg (hdc x).toArray) (.agg (hdc y).toArray); binOp .neq 26 (.agg (hdc x).toArray) (.agg (hdc y).toArray) : Sem Value).run Tryd.prog w = .ok (.bool (!decide (x = y))) w := by
  rw [Sem.run_bind, show (eqGuard .neq 26 p q (.agg (hdc x).toArray) (.agg (hdc y).toArray)).run Tryd.prog w = .ok () w by go_simp, Result.andThen_ok, run_neq_struct, eqInHd hx hy]
  rfl
end Go.Proofs.YtjgdmpbaikhflaaDoor
/- header.Get. -/
namespace Go.Proofs.YtjgdmpbaikhflaaDoor
open Go.RowKit
attribute [local go_sem high] slB_lh slB_l slB_h
theorem hdc_set1 {h : Hd} (k : h.ok) {p : List UInt8} (hp : p.length = 32) : (hdc h).take 1 ++ p.map bv ++ (hdc h).drop (1 + 32) = hdc { h with prev := p } := by
  have e : hdc h = [.int .u32 (h.ver : Int)] ++ (h.prev.map bv ++ (h.root.map bv ++ [.int .u32 (h.time : Int), .int .u32 (h.bits : Int), .int .u32 (h.nonce : Int)])) := rfl
  have := splice [Value.int .u32 (h.ver : Int)] (h.prev.map bv) (p.map bv) (h.root.map bv ++ [.int .u32 (h.time : Int), .int .u32 (h.bits : Int), .int .u32 (h.nonce : Int)]) 1 rfl (by simp [hp, k.2.1])
  rw [List.length_map, hp, ← e] at this
  rw [this]
  rfl
theorem hdc_set2 {h : Hd} (k : h.ok) {p : List UInt8} (hp : p.length = 32) : (hdc h).take 33 ++ p.map bv ++ (hdc h).drop (33 + 32) = hdc { h with root := p } := by
  have e : hdc h = ([.int .u32 (h.ver : Int)] ++ h.prev.map bv) ++ (h.root.map bv ++ [.int .u32 (h.time : Int), .int .u32 (h.bits : Int), .int .u32 (h.nonce : Int)]) := by simp [hdc]
  have := splice ([Value.int .u32 (h.ver : Int)] ++ h.prev.map bv) (h.root.map bv) (p.map bv) [.int .u32 (h.time : Int), .int .u32 (h.bits : Int), .int .u32 (h.nonce : Int)] 33 (by simp [k.2.1]) (by simp [hp, k.2.2.1])
  rw [List.length_map, hp, ← e] at this
  rw [this]
  simp [hdc]
def zeroHd : Hd := ⟨0, List.replicate 32 0, List.replicate 32 0, 0, 0, 0⟩
theorem zeroHd_ok : zeroHd.ok := by unfold Hd.ok; decide
/-- the header that eighty bytes are -/
def hdOf (b : List UInt8) : Hd := ⟨Cm.le (b.take 4), (b.drop 4).take 32, (b.drop 36).take 32, Cm.le ((b.drop 68).take 4), Cm.le ((b.drop 72).take 4), Cm.le ((b.drop 76).take 4)⟩
theorem le4 (b : List UInt8) : Cm.le (b.take 4) < 4294967296 := by
  have h := Cm.le_lt (b.take 4)
  exact Nat.lt_of_lt_of_le h (Nat.pow_le_pow_right (n := 256) (by omega) (i := (b.take 4).length) (j := 4) (by rw [List.length_take]; omega))
theorem hdOf_ok {b : List UInt8} (h : b.length = 80) : (hdOf b).ok := ⟨le4 _, by simp [hdOf]; omega, by simp [hdOf]; omega, le4 _, le4 _, le4 _⟩
/-- what header.Get answers -/
def hdGet (b : List UInt8) : Hd × Nat := if b.length < 80 then (zeroHd, 1) else if 80 < b.length then (zeroHd, 3) else (hdOf b, 0)
set_option maxRecDepth 10000 in
set_option maxHeartbeats 4000000 in
theorem HdGet_bad (e : Nat) (A : Option Addr) (n c : Nat) (hn : n < 80 ∧ e = 1 ∨ 80 < n ∧ e = 3) (w : World) :
    Calls Tryd.prog 15 #[.slice A n c] w fun r w' => r = .returned (.tuple #[.agg (hdc zeroHd).toArray, .int .i64 (e : Int)]) ∧ Below w.heap.size w w' := by
  have hz := zeros_68
  obtain ⟨zs, hzs⟩ : ∃ zs : List Value, zs = hdc zeroHd := ⟨_, rfl⟩
  have hzl : zs.length = 68 := by rw [hzs]; rfl
  have hone : zs.all (·.oneCell') = true := by rw [hzs]; exact List.all_eq_true.2 (hdc_one _)
  rw [show hdc ⟨0, List.replicate 32 0, List.replicate 32 0, 0, 0, 0⟩ = zs from hzs.symm] at hz
  rw [← hzs]
  clear hzs
  obtain ⟨W, hW⟩ : ∃ W, W = w.alloc (.cells zs.toArray 26) := ⟨_, rfl⟩
  obtain ⟨H, hH⟩ : ∃ H, H = w.heap.size := ⟨_, rfl⟩
  have bW : Below w.heap.size w W := by rw [hW]; exact (Below.refl _ _).alloc (Nat.le_refl _) _
  have rW : Av W H 26 zs := by rw [hW, hH]; exact heap_alloc_new _ _
  have hHw : w.heap.size ≤ H := by rw [hH]; exact Nat.le_refl _
  replace hW := Lib.hid hW
  replace hH := Lib.hid hH
  replace hzl := Lib.hid hzl
  replace hone := Lib.hid hone
  rcases hn with ⟨h1, rfl⟩ | ⟨h1, rfl⟩
  · have t1 : decide ((n : Int) < 80) = true := by simp; omega
    go_enter Tryd.func15, Tryd.ntmps15
    go_upto_region 1 with fail
    rw [← hW.out, ← hH.out]
    go_wp2_with (first
      | ((with_reducible refine wpList_build (.agg zs.toArray) ?_ ?_); (go_simp; first | done | rfl))
      | ((with_reducible refine wpList_storeFA 26 bW rW hHw zs ?_ ?_ 68 hzl.out ?_ ?_ ?_ ?_); rfl; rfl; kernel_rfl; exact hzl.out; exact hone.out; intro w4 a4 b4 k4 z4))
    refine bodyPost_ret (v := .tuple #[.agg zs.toArray, .int .i64 1]) ((results_cellU (C := zs) (by rfl) (by rfl) a4 _ Tryd.underlying26 rfl 68 hzl.out (by kernel_rfl)).trans (by rfl)) (by rfl) ?_
    exact ⟨rfl, b4⟩
  · have t1 : decide ((n : Int) < 80) = false := by simp; omega
    have t2 : decide ((80 : Int) < (n : Int)) = true := by simp; omega
    go_enter Tryd.func15, Tryd.ntmps15
    go_upto_region 1 with fail
    rw [← hW.out, ← hH.out]
    go_wp2_with (first
      | ((with_reducible refine wpList_build (.agg zs.toArray) ?_ ?_); (go_simp; first | done | rfl))
      | ((with_reducible refine wpList_storeFA 26 bW rW hHw zs ?_ ?_ 68 hzl.out ?_ ?_ ?_ ?_); rfl; rfl; kernel_rfl; exact hzl.out; exact hone.out; intro w4 a4 b4 k4 z4))
    refine bodyPost_ret (v := .tuple #[.agg zs.toArray, .int .i64 3]) ((results_cellU (C := zs) (by rfl) (by rfl) a4 _ Tryd.underlying26 rfl 68 hzl.out (by kernel_rfl)).trans (by rfl)) (by rfl) ?_
    exact ⟨rfl, b4⟩
set_option maxRecDepth 10000 in
set_option maxHeartbeats 4000000 in
theorem HdGet_ok (b : List UInt8) (A : Option Addr) (c : Nat) (hn : b.length = 80) (hc : 80 ≤ c) (w : World) (hr : Rd w A (b.map bv)) :
    Calls Tryd.prog 15 #[.slice A 80 c] w fun r w' => r = .returned (.tuple #[.agg (hdc (hdOf b)).toArray, .int .i64 0]) ∧ Below w.heap.size w w' := by
  have hz := zeros_68
  obtain ⟨zs, hzs⟩ : ∃ zs : List Value, zs = hdc zeroHd := ⟨_, rfl⟩
  have hzl : zs.length = 68 := by rw [hzs]; rfl
  rw [show hdc ⟨0, List.replicate 32 0, List.replicate 32 0, 0, 0, 0⟩ = zs from hzs.symm] at hz
  clear hzs
  obtain ⟨W, hW⟩ : ∃ W, W = w.alloc (.cells zs.toArray 26) := ⟨_, rfl⟩
  obtain ⟨H, hH⟩ : ∃ H, H = w.heap.size := ⟨_, rfl⟩
  have bW : Below w.heap.size w W := by rw [hW]; exact (Below.refl _ _).alloc (Nat.le_refl _) _
  have rW : Av W H 26 zs := by rw [hW, hH]; exact heap_alloc_new _ _
  have hHw : w.heap.size ≤ H := by rw [hH]; exact Nat.le_refl _
  have t1 : decide ((80 : Int) < 80) = false := by decide
  have hrW := hr.below bW
  have HN := fun (o : Nat) (ho : o ≤ 76) (w' : World) (h : Rd w' A (b.map bv)) => HdNum (b.drop o) (80 - o) (by rw [List.length_drop, hn]) (by omega) (subA A c o 1) (c - o) w' (by have := h.sub c o 1 (by rw [List.length_map, hn]; omega); rw [Nat.mul_one] at this; rw [List.map_drop]; exact this)
  have HN0 := fun (w' : World) (h : Rd w' A (b.map bv)) => HdNum b 80 hn (by omega) A c w' h
  obtain ⟨x, hx⟩ : ∃ x, x = hdOf b := ⟨_, rfl⟩
  have xok : x.ok := by rw [hx]; exact hdOf_ok hn
  have x68 := hdc_length xok
  rw [← hx]
  have e0 : Cm.le (b.take 4) = x.ver := by rw [hx]; rfl
  have e3 : Cm.le ((b.drop 68).take 4) = x.time := by rw [hx]; rfl
  have e4 : Cm.le ((b.drop 72).take 4) = x.bits := by rw [hx]; rfl
  have e5 : Cm.le ((b.drop 76).take 4) = x.nonce := by rw [hx]; rfl
  have e1 : (b.drop 4).take 32 = x.prev := by rw [hx]; rfl
  have e2 : (b.drop 36).take 32 = x.root := by rw [hx]; rfl
  rw [e0] at HN0
  have HN3 := HN 68 (by omega)
  have HN4 := HN 72 (by omega)
  have HN5 := HN 76 (by omega)
  rw [e3] at HN3
  rw [e4] at HN4
  rw [e5] at HN5
  clear HN e0 e3 e4 e5
  replace hW := Lib.hid hW
  replace hH := Lib.hid hH
  replace hx := Lib.hid hx
  replace hzl := Lib.hid hzl
  replace e1 := Lib.hid e1
  replace e2 := Lib.hid e2
  replace HN0 := Lib.hid HN0
  replace HN3 := Lib.hid HN3
  replace HN4 := Lib.hid HN4
  replace HN5 := Lib.hid HN5
  replace hn := Lib.hid hn
  have m1 : (68 : Int) ≤ (c : Int) := by omega
  have m2 : (36 : Int) ≤ (c : Int) := by omega
  go_enter Tryd.func15, Tryd.ntmps15
  go_upto_region 1 with fail
  rw [← hW.out, ← hH.out]
  go_upto_region 5 with fail
  refine wp_region_relT 13 [(12, fun v w' => ∃ g, v = .pointer (some ⟨g, 0, none⟩) ∧ W.heap.size ≤ g ∧ Av w' g 26 zs)] Ext (by kernel_rfl) (by kernel_rfl) (by kernel_rfl) (by kernel_rfl) (by kernel_rfl) Ext.refl Ext.trans (by
      intro p hp v w w' hR
      simp only [List.mem_singleton] at hp
      subst hp
      rintro ⟨g, e, h1, h2⟩
      exact ⟨g, e, h1, h2.below hR⟩) ?_
  refine relMove Ext.refl rfl rfl rfl rfl _ (.inl rfl) (by conv => lhs; whnf) (by simp only [List.set_cons_succ, List.set_cons_zero]; rfl) ?_
  refine relCall1 rfl rfl rfl rfl (c := .int .u32 (x.ver : Int)) 31 #[.slice A 80 c] (fun w => by go_simp) (fun w hw => (HN0.out w (hrW.below hw.drew)).mono ?_) (by simp only [List.set_cons_succ, List.set_cons_zero]; rfl) ?_
  · rintro e w' ⟨rfl, rfl⟩
    exact ⟨rfl, Ext.refl _⟩
  refine relMove Ext.refl rfl rfl rfl rfl _ (.inl rfl) (by conv => lhs; whnf) (by simp only [List.set_cons_succ, List.set_cons_zero]; rfl) ?_
  refine relPure Ext.refl rfl rfl rfl rfl (c := .slice (subA A c 68 1) 12 (c - 68)) (fun w _ => by go_simp; first | done | rfl) (by simp only [List.set_cons_succ, List.set_cons_zero]; rfl) ?_
  refine relCall1 rfl rfl rfl rfl (c := .int .u32 (x.time : Int)) 31 #[.slice (subA A c 68 1) 12 (c - 68)] (fun w => by go_simp) (fun w hw => (HN3.out w (hrW.below hw.drew)).mono ?_) (by simp only [List.set_cons_succ, List.set_cons_zero]; rfl) ?_
  · rintro e w' ⟨rfl, rfl⟩
    exact ⟨rfl, Ext.refl _⟩
  refine relMove Ext.refl rfl rfl rfl rfl _ (.inl rfl) (by conv => lhs; whnf) (by simp only [List.set_cons_succ, List.set_cons_zero]; rfl) ?_
  refine relPure Ext.refl rfl rfl rfl rfl (c := .slice (subA A c 72 1) 8 (c - 72)) (fun w _ => by go_simp; first | done | rfl) (by simp only [List.set_cons_succ, List.set_cons_zero]; rfl) ?_
  refine relCall1 rfl rfl rfl rfl (c := .int .u32 (x.bits : Int)) 31 #[.slice (subA A c 72 1) 8 (c - 72)] (fun w => by go_simp) (fun w hw => (HN4.out w (hrW.below hw.drew)).mono ?_) (by simp only [List.set_cons_succ, List.set_cons_zero]; rfl) ?_
  · rintro e w' ⟨rfl, rfl⟩
    exact ⟨rfl, Ext.refl _⟩
  refine relMove Ext.refl rfl rfl rfl rfl _ (.inl rfl) (by conv => lhs; whnf) (by simp only [List.set_cons_succ, List.set_cons_zero]; rfl) ?_
  refine relPure Ext.refl rfl rfl rfl rfl (c := .slice (subA A c 76 1) 4 (c - 76)) (fun w _ => by go_simp; first | done | rfl) (by simp only [List.set_cons_succ, List.set_cons_zero]; rfl) ?_
  refine relCall1 rfl rfl rfl rfl (c := .int .u32 (x.nonce : Int)) 31 #[.slice (subA A c 76 1) 4 (c - 76)] (fun w => by go_simp) (fun w hw => (HN5.out w (hrW.below hw.drew)).mono ?_) (by simp only [List.set_cons_succ, List.set_cons_zero]; rfl) ?_
  · rintro e w' ⟨rfl, rfl⟩
    exact ⟨rfl, Ext.refl _⟩
  refine relPure Ext.refl rfl rfl rfl rfl (c := .agg (hdc ⟨x.ver, List.replicate 32 0, List.replicate 32 0, x.time, x.bits, x.nonce⟩).toArray) (fun w _ => by kernel_rfl) (by simp only [List.set_cons_succ, List.set_cons_zero]; rfl) ?_
  refine relWord _ rfl (fun w hw => fill_none rfl (relOp_yes rfl ?_)) ?_
  · go_simp
    exact ⟨(Below.refl _ _).alloc (Nat.le_refl _) _, _, rfl, hw.drew.size, heap_alloc_new _ _⟩
  refine relEnd fun w1 hw1 => fill_take rfl rfl fun v' hv' => fill_end ?_
  simp only [List.set_cons_succ, List.set_cons_zero, List.drop_succ_cons, List.drop_zero]
  obtain ⟨G, rfl, hWG, zG⟩ := hv'
  have b1 := bW.trans (hw1.drew.mono bW.size)
  have r1 := rW.below hw1.drew
  have q1 := hrW.below hw1.drew
  have hHG : H < G := Nat.lt_of_lt_of_le rW.lt hWG
  have hwG : w.heap.size ≤ G := Nat.le_trans bW.size hWG
  obtain ⟨x0, hx0⟩ : ∃ x0 : Hd, x0 = ⟨x.ver, List.replicate 32 0, List.replicate 32 0, x.time, x.bits, x.nonce⟩ := ⟨_, rfl⟩
  have ok0 : x0.ok := by rw [hx0]; exact ⟨xok.1, by simp, by simp, xok.2.2.2.1, xok.2.2.2.2.1, xok.2.2.2.2.2⟩
  have l0 := hdc_length ok0
  have one0 := List.all_eq_true.2 (hdc_one x0)
  rw [← hx0]
  go_upto_region 6 with ((with_reducible refine wpList_storeFA 26 b1 zG hwG (hdc x0) ?_ ?_ 68 l0 ?_ ?_ ?_ ?_); rfl; rfl; kernel_rfl; exact hzl.out; exact one0; intro w2 a2 b2 k2 z2)
  have r2 := r1.same (k2 _ (Nat.ne_of_lt hHG))
  have q2 : Rd w2 A (b.map bv) := by
    rcases hr with e | ⟨bb, oo, e, hcc⟩
    · exact .inl e
    · exact .inr ⟨bb, oo, e, fun j u hu => (World.cell?_of_block (a := ⟨bb, oo + j, none⟩) (b2.block bb (World.block_lt_of_cell? w _ (hcc j u hu)))).trans (hcc j u hu)⟩
  clear zG r1 q1 hrW
  obtain ⟨x1, hx1⟩ : ∃ x1 : Hd, x1 = { x0 with prev := x.prev } := ⟨_, rfl⟩
  have ok1 : x1.ok := by rw [hx1]; exact ⟨ok0.1, xok.2.1, ok0.2.2.1, ok0.2.2.2.1, ok0.2.2.2.2.1, ok0.2.2.2.2.2⟩
  have s1 := hdc_set1 ok0 xok.2.1
  rw [← hx1] at s1
  have hp32 : (x.prev.map bv).length = 32 := by rw [List.length_map, xok.2.1]
  have hr32 : (x.root.map bv).length = 32 := by rw [List.length_map, xok.2.2.1]
  go_wp2_with fail
  refine wp_region_relT 4 [] Ext (by kernel_rfl) (by kernel_rfl) (by kernel_rfl) (by kernel_rfl) (by kernel_rfl) Ext.refl Ext.trans (by intro p hp; cases hp) ?_
  refine relPure Ext.refl rfl rfl rfl rfl (c := .pointer (some ⟨G, 1, none⟩)) (fun w _ => by go_simp; first | done | rfl) (by simp only [List.set_cons_succ, List.set_cons_zero]; rfl) ?_
  refine relPure Ext.refl rfl rfl rfl rfl (c := .slice (some ⟨G, 1, none⟩) 32 32) (fun w _ => by go_simp; first | done | rfl) (by simp only [List.set_cons_succ, List.set_cons_zero]; rfl) ?_
  refine relMove Ext.refl rfl rfl rfl rfl _ (.inl rfl) (by conv => lhs; whnf) (by simp only [List.set_cons_succ, List.set_cons_zero]; rfl) ?_
  refine relPure Ext.refl rfl rfl rfl rfl (c := .slice (subA A c 4 1) 32 (c - 4)) (fun w _ => by go_simp; first | done | rfl) (by simp only [List.set_cons_succ, List.set_cons_zero]; rfl) ?_
  refine relEnd fun w3 hw3 => fill_end ?_
  have a3 := a2.below hw3.drew
  have r3 := r2.below hw3.drew
  have q3 := q2.below hw3.drew
  have b3 := b2.trans (hw3.drew.mono b2.size)
  have p3 : Rd w3 (subA A c 4 1) (x.prev.map bv) := by
    have := (q3.sub c 4 1 (by rw [List.length_map, hn.out]; omega)).take 32
    rw [Nat.mul_one, ← List.map_drop, ← List.map_take, e1.out] at this
    exact this
  simp only [List.drop_succ_cons, List.drop_zero]
  (refine wpList_copyF a3 5 Tryd.underlying37 size_u8' 1 32 32 (subA A c 4 1) 32 (c - 4) (x.prev.map bv) p3 hp32 (by rw [hp32, l0]; omega) (bv_one _) rfl rfl ?_; intro w4 a4 f4)
  rw [hp32] at a4
  rw [s1] at a4
  have r4 := f4.av r3 (by omega)
  have q4 : Rd w4 A (b.map bv) := by
    rcases hr with e | ⟨bb, oo, e, hcc⟩
    · exact .inl e
    · exact .inr ⟨bb, oo, e, fun j u hu => (World.cell?_of_block (a := ⟨bb, oo + j, none⟩) ((b3.trans (f4.below (B := w.heap.size) (fun k hk => by omega) b3.size)).block bb (World.block_lt_of_cell? w _ (hcc j u hu)))).trans (hcc j u hu)⟩
  have b4 := b3.trans (f4.below (B := w.heap.size) (fun k hk => by omega) b3.size)
  have s2 := hdc_set2 ok1 xok.2.2.1
  have l1 := hdc_length ok1
  have ex : { x1 with root := x.root } = x := by rw [hx1, hx0]
  rw [ex] at s2
  go_wp2_with fail
  refine wp_region_relT 4 [] Ext (by kernel_rfl) (by kernel_rfl) (by kernel_rfl) (by kernel_rfl) (by kernel_rfl) Ext.refl Ext.trans (by intro p hp; cases hp) ?_
  refine relPure Ext.refl rfl rfl rfl rfl (c := .pointer (some ⟨G, 33, none⟩)) (fun w _ => by go_simp; first | done | rfl) (by simp only [List.set_cons_succ, List.set_cons_zero]; rfl) ?_
  refine relPure Ext.refl rfl rfl rfl rfl (c := .slice (some ⟨G, 33, none⟩) 32 32) (fun w _ => by go_simp; first | done | rfl) (by simp only [List.set_cons_succ, List.set_cons_zero]; rfl) ?_
  refine relMove Ext.refl rfl rfl rfl rfl _ (.inl rfl) (by conv => lhs; whnf) (by simp only [List.set_cons_succ, List.set_cons_zero]; rfl) ?_
  refine relPure Ext.refl rfl rfl rfl rfl (c := .slice (subA A c 36 1) 32 (c - 36)) (fun w _ => by go_simp; first | done | rfl) (by simp only [List.set_cons_succ, List.set_cons_zero]; rfl) ?_
  refine relEnd fun w5 hw5 => fill_end ?_
  have a5 := a4.below hw5.drew
  have r5 := r4.below hw5.drew
  have q5 := q4.below hw5.drew
  have b5 := b4.trans (hw5.drew.mono b4.size)
  have p5 : Rd w5 (subA A c 36 1) (x.root.map bv) := by
    have := (q5.sub c 36 1 (by rw [List.length_map, hn.out]; omega)).take 32
    rw [Nat.mul_one, ← List.map_drop, ← List.map_take, e2.out] at this
    exact this
  simp only [List.drop_succ_cons, List.drop_zero]
  (refine wpList_copyF a5 5 Tryd.underlying37 size_u8' 33 32 32 (subA A c 36 1) 32 (c - 36) (x.root.map bv) p5 hr32 (by rw [hr32, l1]; omega) (bv_one _) rfl rfl ?_; intro w6 a6 f6)
  rw [hr32] at a6
  rw [s2] at a6
  have r6 := f6.av r5 (by omega)
  have b6 := b5.trans (f6.below (B := w.heap.size) (fun k hk => by omega) b5.size)
  have onex := List.all_eq_true.2 (hdc_one x)
  go_wp2_with (first
    | ((with_reducible refine wpList_loadF 26 a6 ?_ _ 68 x68 Tryd.underlying26 ?_ ?_ ?_); rfl; rfl; kernel_rfl)
    | ((with_reducible refine wpList_storeFA 26 b6 r6 hHw (hdc x) ?_ ?_ 68 x68 ?_ ?_ ?_ ?_); rfl; rfl; kernel_rfl; exact hzl.out; exact onex; intro w7 a7 b7 k7 z7))
  refine bodyPost_ret (v := .tuple #[.agg (hdc x).toArray, .int .i64 0]) ((results_cellU (C := hdc x) (by rfl) (by rfl) a7 _ Tryd.underlying26 rfl 68 x68 (by kernel_rfl)).trans (by rfl)) (by rfl) ?_
  exact ⟨rfl, b7⟩
/-- what header.Get answers -/
theorem HdGet (b : List UInt8) (A : Option Addr) (n c : Nat) (hn : b.length = n) (hc : n ≤ c) (w : World) (hr : Rd w A (b.map bv)) :
    Calls Tryd.prog 15 #[.slice A n c] w fun r w' => r = .returned (.tuple #[.agg (hdc (hdGet b).1).toArray, .int .i64 ((hdGet b).2 : Int)]) ∧ Below w.heap.size w w' := by
  unfold hdGet
  by_cases h1 : b.length < 80
  · rw [if_pos h1]
    exact HdGet_bad 1 A n c (.inl ⟨by omega, rfl⟩) w
  · rw [if_neg h1]
    by_cases h2 : 80 < b.length
    · rw [if_pos h2]
      exact HdGet_bad 3 A n c (.inr ⟨by omega, rfl⟩) w
    · rw [if_neg h2]
      obtain rfl : n = 80 := by omega
      exact HdGet_ok b A c hn hc w hr
end Go.Proofs.YtjgdmpbaikhflaaDoor
/- The law HeaderBytes: the plain law and the walk. -/
namespace Go.Proofs.YtjgdmpbaikhflaaDoor
open Go.RowKit
attribute [local go_sem high] slB_lh slB_l slB_h
theorem le_inj {a b : List UInt8} (h : a.length = b.length) (e : Cm.le a = Cm.le b) : a = b := by
  rw [← Cm.lo_le a, ← Cm.lo_le b, h, e]
theorem seg_set (b : List UInt8) (i s n : Nat) (x : UInt8) (hi : i < b.length) (hx : x ≠ b[i]) (_ : s + n ≤ b.length) : ((b.set i x).drop s).take n = (b.drop s).take n ↔ ¬ (s ≤ i ∧ i < s + n) := by
  constructor
  · rintro e ⟨h1, h2⟩
    have := congrArg (fun l : List UInt8 => l[i - s]?) e
    simp only [List.getElem?_take, List.getElem?_drop] at this
    rw [if_pos (by omega), if_pos (by omega), show s + (i - s) = i by omega, List.getElem?_set_self hi, List.getElem?_eq_getElem hi] at this
    exact hx (Option.some.inj this)
  · intro h
    apply List.ext_getElem?
    intro j
    simp only [List.getElem?_take, List.getElem?_drop]
    split
    · rw [List.getElem?_set_ne (by omega)]
    · rfl
theorem hdOf_hdB {h : Hd} (k : h.ok) : hdOf (hdB h) = h := by
  obtain ⟨k0, k1, k2, k3, k4, k5⟩ := k
  have m : ∀ n r, ((Cm.lo 4 n : List UInt8) ++ r).take 4 = Cm.lo 4 n := fun n r => by rw [List.take_append_of_le_length (by rw [Cm.lo_length]; exact Nat.le_refl _), List.take_of_length_le (by rw [Cm.lo_length]; exact Nat.le_refl _)]
  have d4 : ∀ (n j : Nat) (r : List UInt8), ((Cm.lo 4 n : List UInt8) ++ r).drop (4 + j) = r.drop j := fun n j r => by rw [← List.drop_drop, List.drop_left' (Cm.lo_length 4 n)]
  have d32 : ∀ (p : List UInt8) (_ : p.length = 32) (j : Nat) (r : List UInt8), (p ++ r).drop (32 + j) = r.drop j := fun p hp j r => by rw [← List.drop_drop, List.drop_left' hp]
  have t32 : ∀ (p : List UInt8) (_ : p.length = 32) (r : List UInt8), (p ++ r).take 32 = p := fun p hp r => by rw [List.take_append_of_le_length (by omega), List.take_of_length_le (by omega)]
  have le : ∀ n, n < 4294967296 → Cm.le (Cm.lo 4 n) = n := fun n h => by rw [Cm.le_lo]; exact Nat.mod_eq_of_lt h
  have m' : ∀ n, (Cm.lo 4 n : List UInt8).take 4 = Cm.lo 4 n := fun n => List.take_of_length_le (by rw [Cm.lo_length]; exact Nat.le_refl _)
  unfold hdOf hdB
  rw [m, le _ k0, show 4 = 4 + 0 from rfl, d4, List.drop_zero, t32 _ k1, show 36 = 4 + (32 + 0) from rfl, d4, d32 _ k1, List.drop_zero, t32 _ k2,
    show 68 = 4 + (32 + (32 + 0)) from rfl, d4, d32 _ k1, d32 _ k2, List.drop_zero, show 72 = 4 + (32 + (32 + (4 + 0))) from rfl, d4, d32 _ k1, d32 _ k2, d4, List.drop_zero,
    show 76 = 4 + (32 + (32 + (4 + (4 + 0)))) from rfl, d4, d32 _ k1, d32 _ k2, d4, d4, List.drop_zero]
  simp only [Nat.add_zero]
  rw [m, m, m', le _ k3, le _ k4, le _ k5]
theorem hdB_bits {h : Hd} (k : h.ok) : ((hdB h).drop 72).take 4 = Cm.lo 4 h.bits := by
  obtain ⟨_, k1, k2, _⟩ := k
  unfold hdB
  rw [← List.append_assoc, ← List.append_assoc, ← List.append_assoc, List.drop_left' (by simp [Cm.lo_length, k1, k2]), List.take_append_of_le_length (by simp [Cm.lo_length]), List.take_of_length_le (by simp [Cm.lo_length])]
theorem hdB_prev {h : Hd} (k : h.ok) : ((hdB h).drop 4).take 32 = h.prev := congrArg Hd.prev (hdOf_hdB k)
theorem hdB_root {h : Hd} (k : h.ok) : ((hdB h).drop 36).take 32 = h.root := congrArg Hd.root (hdOf_hdB k)
/-- a header of whose bytes one is turned -/
theorem turned_at {h : Hd} (k : h.ok) (i : Nat) (hi : i < 80) (x : UInt8) (hx : x ≠ (hdB h).getD i 0) (g : Hd) (hg : g = hdOf ((hdB h).set i x)) :
    g.ok ∧ (g.ver = h.ver ↔ ¬ i < 4) ∧ (g.prev = h.prev ↔ ¬ (4 ≤ i ∧ i < 36)) ∧ (g.time = h.time ↔ ¬ (68 ≤ i ∧ i < 72)) ∧ (g.nonce = h.nonce ↔ ¬ 76 ≤ i) ∧ g ≠ h := by
  have hl := hdB_length k
  have hi2 : i < (hdB h).length := by omega
  have hx2 : x ≠ (hdB h)[i] := by rw [List.getD_eq_getElem?_getD, List.getElem?_eq_getElem hi2] at hx; exact hx
  have e := hdOf_hdB k
  have sg := fun s n hs => seg_set (hdB h) i s n x hi2 hx2 hs
  have gok : g.ok := by rw [hg]; exact hdOf_ok (by rw [List.length_set, hl])
  have c0 : g.ver = h.ver ↔ ¬ (0 ≤ i ∧ i < 0 + 4) := by
    rw [← sg 0 4 (by omega), List.drop_zero, List.drop_zero]
    refine ⟨fun q => le_inj (by simp) ?_, fun q => ?_⟩
    · rw [← congrArg Hd.ver e, hg] at q; exact q
    · rw [← congrArg Hd.ver e, hg]; exact congrArg Cm.le q
  have c1 : g.prev = h.prev ↔ ¬ (4 ≤ i ∧ i < 4 + 32) := by
    rw [← sg 4 32 (by omega), ← congrArg Hd.prev e, hg]; exact Iff.rfl
  have c2 : g.root = h.root ↔ ¬ (36 ≤ i ∧ i < 36 + 32) := by
    rw [← sg 36 32 (by omega), ← congrArg Hd.root e, hg]; exact Iff.rfl
  have c3 : g.time = h.time ↔ ¬ (68 ≤ i ∧ i < 68 + 4) := by
    rw [← sg 68 4 (by omega)]
    refine ⟨fun q => le_inj (by simp) ?_, fun q => ?_⟩
    · rw [← congrArg Hd.time e, hg] at q; exact q
    · rw [← congrArg Hd.time e, hg]; exact congrArg Cm.le q
  have c4 : g.bits = h.bits ↔ ¬ (72 ≤ i ∧ i < 72 + 4) := by
    rw [← sg 72 4 (by omega)]
    refine ⟨fun q => le_inj (by simp) ?_, fun q => ?_⟩
    · rw [← congrArg Hd.bits e, hg] at q; exact q
    · rw [← congrArg Hd.bits e, hg]; exact congrArg Cm.le q
  have c5 : g.nonce = h.nonce ↔ ¬ (76 ≤ i ∧ i < 76 + 4) := by
    rw [← sg 76 4 (by omega)]
    refine ⟨fun q => le_inj (by simp) ?_, fun q => ?_⟩
    · rw [← congrArg Hd.nonce e, hg] at q; exact q
    · rw [← congrArg Hd.nonce e, hg]; exact congrArg Cm.le q
  refine ⟨gok, c0.trans (by omega), c1, c3, c5.trans (by omega), fun q => ?_⟩
  have := c0.1 (by rw [q])
  have := c1.1 (by rw [q])
  have := c2.1 (by rw [q])
  have := c3.1 (by rw [q])
  have := c4.1 (by rw [q])
  have := c5.1 (by rw [q])
  omega
theorem own_av {w : World} {base : Nat} {A : Option Addr} {n c : Nat} {bs : List UInt8} (h : OwnB w base (.slice A n c) bs) (hn : 0 < n) : ∃ g rest, A = some ⟨g, 0, none⟩ ∧ base ≤ g ∧ Av w g 5 (bs.map bv ++ rest) := by
  unfold OwnB at h
  rcases h.2 with ⟨e, h0⟩ | ⟨g, cap, cur, e, hb, hh, _, _, _, ht⟩
  · simp at e; omega
  · simp at e
    refine ⟨g, cur.toList.drop (bs.length * 1), e.1, hb, ?_⟩
    unfold Av
    rw [hh]
    congr 2
    rw [← ht, List.take_append_drop]
theorem xor_255 (b : UInt8) : ∃ y : UInt8, y ≠ b ∧ bits .xor .u8 (b.toNat : Int) 255 = (y.toNat : Int) := by
  have key : ∀ n : Fin 256, bits .xor .u8 (n.val : Int) 255 = ((255 - n.val : Nat) : Int) := by decide +kernel
  refine ⟨UInt8.ofNat (255 - b.toNat), ?_, ?_⟩
  · intro e
    have := congrArg UInt8.toNat e
    rw [Cm.u8_ofNat _ (by omega)] at this
    have := b.toNat_lt
    omega
  · have := key ⟨b.toNat, b.toNat_lt⟩
    rw [Cm.u8_ofNat _ (by omega)]
    exact this
theorem eqlPg (x y : List UInt8) (hx : x.length = 32) (hy : y.length = 32) (p q : Operand) (w : World) : (do eqGuard .eql 24 p q (.agg (hcs x)) (.agg (hcs y)); binOp .eql 24 (.agg (hcs x)) (.agg (hcs y)) : Sem Value).run Tryd.prog w = .ok (.bool (x == y)) w := by
  rw [Sem.run_bind, show (eqGuard .eql 24 p q (.agg (hcs x)) (.agg (hcs y))).run Tryd.prog w = .ok () w by go_simp]
  have := eqlP x y hx hy w
  simpa using this
theorem or_hi (n b : Nat) (hn : n < 16777216) (hb : b < 256) : bits .or .u32 ((n : Int) * 256) (b : Int) = ((b + 256 * n : Nat) : Int) := by
  rw [bits_join .u32 32 (by decide) wraps_u32 8 ((n : Int) * 256) (b : Int) (by omega) (by omega) (by omega) (by omega) (by omega) (by omega)]
  omega
set_option maxRecDepth 10000 in
set_option maxHeartbeats 16000000 in
theorem law_HeaderBytes (x : Hd) (k : x.ok) (kk : Int) (w : World) (ht : Tabs w) :
    Calls Tryd.prog 5 #[.agg (hdc x).toArray, .int .i64 kk] w fun e w' => e = .returned (.bool true) ∧ Below w.heap.size w w' := by
  obtain ⟨q, i, hq, hq0, hqi, hqt, hi⟩ := and_ffff_at kk 80 (by omega)
  replace hqi : q % 80 = (i : Int) := by simpa using hqi
  replace hqt : q.tmod 80 = (i : Int) := by simpa using hqt
  have HP := fun w' => HdPut x k w'
  have hV80 := hdB_length k
  have hbits := hdB_bits k
  have hprev := hdB_prev k
  have hroot := hdB_root k
  obtain ⟨Q, hQ⟩ : ∃ Q : List UInt8, Q = Cm.lo 4 x.bits := ⟨_, rfl⟩
  have hQ4 : Q.length = 4 := by rw [hQ, Cm.lo_length]
  have hQb : Cm.le Q = x.bits := by rw [hQ, Cm.le_lo]; exact Nat.mod_eq_of_lt k.2.2.2.2.1
  rw [← hQ] at hbits
  obtain ⟨y, hy, hxor⟩ := xor_255 ((hdB x).getD i 0)
  obtain ⟨gg, hg⟩ : ∃ g, g = hdOf ((hdB x).set i y) := ⟨_, rfl⟩
  obtain ⟨gok, f0, f1, f3, f5, gne⟩ := turned_at k i hi y hy gg hg
  have HId := HdId x k
  rw [hdId] at HId
  obtain ⟨V, hV⟩ : ∃ V, V = hdB x := ⟨_, rfl⟩
  rw [← hV] at HP hV80 hbits hprev hroot hxor hg HId
  have HG := fun A c hc w' (r : Rd w' A ((V.set i y).map bv)) => HdGet_ok (V.set i y) A c (by rw [List.length_set, hV80]) hc w' r
  rw [← hg] at HG
  have HD := fun A w' q t => Double V A 80 80 hV80 (Nat.le_refl _) (by omega) w' q t
  obtain ⟨dd, hdd⟩ : ∃ l, l = dblB V := ⟨_, rfl⟩
  have hdl : dd.length = 32 := by rw [hdd, dblB_length]
  rw [← hdd] at HD HId
  have hz := zeros_68
  obtain ⟨zs, hzs⟩ : ∃ zs : List Value, zs = hdc ⟨0, List.replicate 32 0, List.replicate 32 0, 0, 0, 0⟩ := ⟨_, rfl⟩
  have hzl : zs.length = 68 := by rw [hzs]; rfl
  rw [← hzs] at hz
  clear hzs
  obtain ⟨W, hW⟩ : ∃ W, W = w.alloc (.cells (hdc x).toArray 26) := ⟨_, rfl⟩
  obtain ⟨H, hH⟩ : ∃ H, H = w.heap.size := ⟨_, rfl⟩
  have bW : Below w.heap.size w W := by rw [hW]; exact (Below.refl _ _).alloc (Nat.le_refl _) _
  have aW : Av W H 26 (hdc x) := by rw [hW, hH]; exact heap_alloc_new _ _
  have HA := Lib.hid (awake7 W (ht.below bW))
  have x68 := Lib.hid (hdc_length k)
  have g68 := Lib.hid (hdc_length gok)
  have gone := Lib.hid (List.all_eq_true.2 (hdc_one gg))
  obtain ⟨x0, x3, x4, x5⟩ := hdc_at k
  obtain ⟨g0, g3, _, g5⟩ := hdc_at gok
  have xp32 : (x.prev.map bv).length = 32 := by rw [List.length_map, k.2.1]
  have gp32 : (gg.prev.map bv).length = 32 := by rw [List.length_map, gok.2.1]
  have NP := fun p q w => neqPg gg.prev x.prev gok.2.1 k.2.1 p q w
  have NH := fun p q w => neqHdg gok k p q w
  rw [decide_eq_false gne] at NH
  have ND := fun p q w => eqlPg dd dd hdl hdl p q w
  rw [beq_self_eq_true] at ND
  have f1b : (gg.prev == x.prev) = decide (¬ (4 ≤ i ∧ i < 36)) := by rw [Bool.eq_iff_iff]; simp only [beq_iff_eq, decide_eq_true_eq]; exact f1
  rw [f1b] at NP
  have hxx : ∃ v0 v3 v4 v5 u0 u3 u5 : Nat, x.ver = v0 ∧ x.time = v3 ∧ x.bits = v4 ∧ x.nonce = v5 ∧ gg.ver = u0 ∧ gg.time = u3 ∧ gg.nonce = u5 := ⟨_, _, _, _, _, _, _, rfl, rfl, rfl, rfl, rfl, rfl, rfl⟩
  obtain ⟨v0, v3, v4, v5, u0, u3, u5, r0, r3, r4, r5, s0, s3, s5⟩ := hxx
  rw [r0] at x0 f0
  rw [r3] at x3 f3
  rw [r4] at x4 hQb
  rw [r5] at x5 f5
  rw [s0] at g0 f0
  rw [s3] at g3 f3
  rw [s5] at g5 f5
  obtain ⟨yb, hyb⟩ : ∃ b : UInt8, b = V.getD i 0 := ⟨_, rfl⟩
  rw [← hyb] at hxor
  have hcv : V[i]? = some yb := by rw [hyb, List.getD_eq_getElem?_getD, List.getElem?_eq_getElem (by omega)]; rfl
  clear f1 f1b hy gne r0 r3 r4 r5 s0 s3 s5
  replace f0 := Lib.hid f0
  replace f3 := Lib.hid f3
  replace f5 := Lib.hid f5
  replace hW := Lib.hid hW
  replace hH := Lib.hid hH
  replace hV := Lib.hid hV
  replace hV80 := Lib.hid hV80
  replace hbits := Lib.hid hbits
  replace hprev := Lib.hid hprev
  replace hroot := Lib.hid hroot
  replace hQ := Lib.hid hQ
  replace hg := Lib.hid hg
  replace hyb := Lib.hid hyb
  replace hcv := Lib.hid hcv
  replace hdd := Lib.hid hdd
  replace hzl := Lib.hid hzl
  replace HP := Lib.hid HP
  replace HG := Lib.hid HG
  replace HD := Lib.hid HD
  replace HId := Lib.hid HId
  replace NP := Lib.hid NP
  replace NH := Lib.hid NH
  replace ND := Lib.hid ND
  replace hdl := Lib.hid hdl
  replace xp32 := Lib.hid xp32
  replace gp32 := Lib.hid gp32
  obtain ⟨q0, q1, q2, q3, rfl⟩ : ∃ a b c d, Q = [a, b, c, d] := by
    match Q, hQ4 with
    | [a, b, c, d], _ => exact ⟨a, b, c, d, rfl⟩
  replace hQb := Lib.hid hQb
  go_enter Tryd.func5, Tryd.ntmps5
  go_upto_region 1 with fail
  rw [← hW.out, ← hH.out]
  go_upto_region 2 with (go_at_call 9; refine (HA.out).mono ?_; rintro e w1 ⟨rfl, b1⟩)
  have bw1 := bW.trans (b1.mono bW.size)
  have a1 := aW.below b1
  go_upto_region 3 with (first
    | ((with_reducible refine wpList_loadF 26 a1 ?_ _ 68 x68.out Tryd.underlying26 ?_ ?_ ?_); rfl; rfl; kernel_rfl)
    | (go_at_call 14; refine (HP.out w1).mono ?_; rintro e w2 ⟨A2, rfl, r2, b2⟩))
  have bw2 := bw1.trans (b2.mono bw1.size)
  have a2 := a1.below b2
  obtain ⟨bb, off, e⟩ := r2.someA (by intro h; have := congrArg List.length h; rw [List.length_map, hV80.out] at this; simp at this)
  obtain rfl : A2 = ⟨bb, off, none⟩ := by simpa using e
  clear e
  have hcell : ∀ j b, V[j]? = some b → w2.cell? ⟨bb, off + j, none⟩ = some (bv b) := fun j b h => by
    rcases r2 with h' | ⟨b', o', hA, hc⟩
    · rw [List.map_eq_nil_iff] at h'; rw [h'] at h; simp at h
    · cases hA
      exact hc j _ (by rw [List.getElem?_map, h]; rfl)
  have hq4 : ∀ j b, [q0, q1, q2, q3][j]? = some b → V[72 + j]? = some b := fun j b h => by
    rw [← hbits.out, List.getElem?_take, List.getElem?_drop] at h
    split at h
    · exact h
    · cases h
  have y0 := hcell 72 q0 (hq4 0 _ rfl)
  have y1 := hcell 73 q1 (hq4 1 _ rfl)
  have y2 := hcell 74 q2 (hq4 2 _ rfl)
  have y3 := hcell 75 q3 (hq4 3 _ rfl)
  clear hcell hq4
  go_wp2
  go_loop [7, 8] (fun t i => ∃ j : Nat, j ≤ 4 ∧ i = .int .i64 ((j : Int) - 1) ∧ t = .int .u32 (Cm.le ([q0, q1, q2, q3].drop j) : Int)) (fun _ i => (intOf i + 1).toNat)
  case atStart => exact ⟨4, by omega, rfl, rfl⟩
  case round =>
    obtain ⟨j, hj, rfl, rfl⟩ := hrel
    have hj5 : j = 0 ∨ j = 1 ∨ j = 2 ∨ j = 3 ∨ j = 4 := by omega
    rcases hj5 with rfl | rfl | rfl | rfl | rfl
    rotate_left
    · have hu := Cm.u8_lt q0
      have hlt : Cm.le ([q0, q1, q2, q3].drop 1) < 16777216 := Nat.lt_of_lt_of_le (Cm.le_lt _) (by exact Nat.pow_le_pow_right (n := 256) (i := ([q0, q1, q2, q3].drop 1).length) (j := 3) (by omega) (by simp))
      have he : Cm.le ([q0, q1, q2, q3].drop 0) = q0.toNat + 256 * Cm.le ([q0, q1, q2, q3].drop 1) := rfl
      obtain ⟨N, hN⟩ : ∃ N, N = Cm.le ([q0, q1, q2, q3].drop 1) := ⟨_, rfl⟩
      rw [← hN] at hlt he ⊢
      have ho := or_hi N q0.toNat hlt hu
      rw [← he] at ho
      replace he := Lib.hid he
      replace hN := Lib.hid hN
      have hIn : IntKind.u32.wrap (q0.toNat : Int) = (q0.toNat : Int) := by rw [IntKind.wrap_u32]; omega
      go_wp2
      go_round
      case rel => exact ⟨0, by omega, by go_num, by first | rfl | (rw [ho])⟩
      case measure => simp [intOf]
    · have hu := Cm.u8_lt q1
      have hlt : Cm.le ([q0, q1, q2, q3].drop 2) < 16777216 := Nat.lt_of_lt_of_le (Cm.le_lt _) (by exact Nat.pow_le_pow_right (n := 256) (i := ([q0, q1, q2, q3].drop 2).length) (j := 3) (by omega) (by simp))
      have he : Cm.le ([q0, q1, q2, q3].drop 1) = q1.toNat + 256 * Cm.le ([q0, q1, q2, q3].drop 2) := rfl
      obtain ⟨N, hN⟩ : ∃ N, N = Cm.le ([q0, q1, q2, q3].drop 2) := ⟨_, rfl⟩
      rw [← hN] at hlt he ⊢
      have ho := or_hi N q1.toNat hlt hu
      rw [← he] at ho
      replace he := Lib.hid he
      replace hN := Lib.hid hN
      have hIn : IntKind.u32.wrap (q1.toNat : Int) = (q1.toNat : Int) := by rw [IntKind.wrap_u32]; omega
      go_wp2
      go_round
      case rel => exact ⟨1, by omega, by go_num, by first | rfl | (rw [ho])⟩
      case measure => simp [intOf]
    · have hu := Cm.u8_lt q2
      have hlt : Cm.le ([q0, q1, q2, q3].drop 3) < 16777216 := Nat.lt_of_lt_of_le (Cm.le_lt _) (by exact Nat.pow_le_pow_right (n := 256) (i := ([q0, q1, q2, q3].drop 3).length) (j := 3) (by omega) (by simp))
      have he : Cm.le ([q0, q1, q2, q3].drop 2) = q2.toNat + 256 * Cm.le ([q0, q1, q2, q3].drop 3) := rfl
      obtain ⟨N, hN⟩ : ∃ N, N = Cm.le ([q0, q1, q2, q3].drop 3) := ⟨_, rfl⟩
      rw [← hN] at hlt he ⊢
      have ho := or_hi N q2.toNat hlt hu
      rw [← he] at ho
      replace he := Lib.hid he
      replace hN := Lib.hid hN
      have hIn : IntKind.u32.wrap (q2.toNat : Int) = (q2.toNat : Int) := by rw [IntKind.wrap_u32]; omega
      go_wp2
      go_round
      case rel => exact ⟨2, by omega, by go_num, by first | rfl | (rw [ho])⟩
      case measure => simp [intOf]
    · have hu := Cm.u8_lt q3
      have hlt : Cm.le ([q0, q1, q2, q3].drop 4) < 16777216 := Nat.lt_of_lt_of_le (Cm.le_lt _) (by exact Nat.pow_le_pow_right (n := 256) (i := ([q0, q1, q2, q3].drop 4).length) (j := 3) (by omega) (by simp))
      have he : Cm.le ([q0, q1, q2, q3].drop 3) = q3.toNat + 256 * Cm.le ([q0, q1, q2, q3].drop 4) := rfl
      obtain ⟨N, hN⟩ : ∃ N, N = Cm.le ([q0, q1, q2, q3].drop 4) := ⟨_, rfl⟩
      rw [← hN] at hlt he ⊢
      have ho := or_hi N q3.toNat hlt hu
      rw [← he] at ho
      replace he := Lib.hid he
      replace hN := Lib.hid hN
      have hIn : IntKind.u32.wrap (q3.toNat : Int) = (q3.toNat : Int) := by rw [IntKind.wrap_u32]; omega
      go_wp2
      go_round
      case rel => exact ⟨3, by omega, by go_num, by first | rfl | (rw [ho])⟩
      case measure => simp [intOf]
    · have eb : (Cm.le ([q0, q1, q2, q3].drop 0) : Int) = (v4 : Int) := by rw [List.drop_zero, hQb.out]
      rw [eb]
      replace eb := Lib.hid eb
      clear y0 y1 y2 y3
      have hmade := OwnB.made w2 w2.heap.size (Nat.le_refl _) #[] 0 (by simp only [maxLen]; omega) rfl
      have hb7 := (Below.refl w2.heap.size w2).alloc (Nat.le_refl _) (.cells #[] 5)
      have hr7 := r2.below hb7
      go_upto_region 12 with (at_builtin; refine wpList_appB hmade hb7 (by simp) 80 80 hr7 hV80.out (by simp) rfl (.tmp 36) (.tmp 37) rfl rfl rfl ?_; intro v8 w8 ho8 hb8 hz8 hg8; rw [List.nil_append] at ho8; obtain ⟨A8, c8, rfl, hc8, _⟩ := ho8.formN 80 hV80.out)
      have bw8 := bw2.trans (hb8.mono bw2.size)
      have a8 := a2.below hb8
      have r8 := r2.below hb8
      obtain ⟨G8, rest, rfl, hG8, av8⟩ := own_av ho8 (by omega)
      clear hmade hb7 hr7 hz8 hg8 ho8
      have i0 : 0 ≤ (i : Int) := by omega
      have i1 : (i : Int) < 80 := by omega
      have hVi : (V.map bv ++ rest)[i]? = some (bv yb) := by rw [List.getElem?_append_left (by rw [List.length_map, hV80.out]; exact hi), List.getElem?_map, hcv.out]; rfl
      have ci := av8.cell i _ hVi
      have li : i < (V.map bv ++ rest).length := by rw [List.length_append, List.length_map, hV80.out]; omega
      have hset : (V.map bv ++ rest).set i (.int .u8 (y.toNat : Int)) = (V.set i y).map bv ++ rest := by
        rw [List.set_append_left _ _ (by rw [List.length_map, hV80.out]; exact hi), List.map_set]
      replace hVi := Lib.hid hVi
      go_upto_region 13 with ((with_reducible refine wpList_storeI 5 av8 li .u8 (y.toNat : Int) ?_ ?_ size_u8' ?_); rfl; rfl; intro w9 av9 f9)
      rw [hset] at av9
      have hHG8 : H < G8 := Nat.lt_of_lt_of_le a2.lt hG8
      have hwG8 : w.heap.size ≤ G8 := Nat.le_trans bw2.size hG8
      have a9 := f9.av a8 (by omega)
      have bb2 : bb < w2.heap.size := r2.lt (by intro h; have := congrArg List.length h; rw [List.length_map, hV80.out] at this; simp at this) _ rfl
      have r9 := f9.rd r8 (fun a e => by cases e; show ¬ bb = G8; omega)
      have bw9 := bw8.trans (f9.below (B := w.heap.size) (fun k hk => by omega) bw8.size)
      have rg9 : Rd w9 (some ⟨G8, 0, none⟩) ((V.set i y).map bv) := by
        have := av9.rd.take 80
        rw [List.take_append_of_le_length (by rw [List.length_map, List.length_set, hV80.out]; exact Nat.le_refl _), List.take_of_length_le (by rw [List.length_map, List.length_set, hV80.out]; exact Nat.le_refl _)] at this
        exact this
      replace hset := Lib.hid hset
      clear av8 av9 ci li hVi f9 r8 a8 r2 a2
      go_upto_region 14 with (first
        | (go_at_call 15; refine (HG.out _ c8 hc8 w9 rg9).mono ?_; rintro e w10 ⟨rfl, b10⟩)
        | ((with_reducible refine wpList_storeF 26 ((Below.refl w10.heap.size w10).alloc (Nat.le_refl _) _) (heap_alloc_new _ _) (Nat.le_refl _) (hdc gg) ?_ ?_ 68 g68.out ?_ ?_ ?_ ?_); rfl; rfl; kernel_rfl; (rw [List.size_toArray]; exact hzl.out); exact gone.out; intro w11 ag b11 k11 z11; clear k11; replace z11 := Lib.hid z11))
      obtain ⟨G, hGG⟩ : ∃ G, G = w10.heap.size := ⟨_, rfl⟩
      rw [← hGG] at ag ⊢
      replace hGG := Lib.hid hGG
      have ax := (a9.below b10).below b11
      have rx := (r9.below b10).below b11
      have bw11 := (bw9.trans (b10.mono bw9.size)).trans (b11.mono (bw9.trans (b10.mono bw9.size)).size)
      have hx0 := ax.cell 0 _ x0
      have hg0 := ag.cell 0 _ g0
      clear a9 r9 rg9 b10 b11
      have hsegs : i < 4 ∨ (4 ≤ i ∧ i < 36) ∨ (36 ≤ i ∧ i < 68) ∨ (68 ≤ i ∧ i < 72) ∨ (72 ≤ i ∧ i < 76) ∨ 76 ≤ i := by omega
      rcases hsegs with hs | hs | hs | hs | hs | hs
      · have e0 : ¬ u0 = v0 := by have := f0.out; omega
        have e3 : u3 = v3 := by have := f3.out; omega
        have e5 : u5 = v5 := by have := f5.out; omega
        have ep : decide (¬ (4 ≤ i ∧ i < 36)) = true := by exact decide_eq_true (by omega)
        have NP2 := NP.out
        rw [ep] at NP2
        replace NP2 := Lib.hid NP2
        replace ep := Lib.hid ep
        have t0 : ((u0 : Int) == (v0 : Int)) = false := by simp; omega
        have t0n : ((u0 : Int) != (v0 : Int)) = true := by simp; omega
        have t4 : decide ((4 : Int) ≤ (i : Int)) = false := by simp; omega
        have t4b : decide ((i : Int) < 4) = true := by simp; omega
        have s0 := Lib.hid e0
        have s3 := Lib.hid e3
        have s5 := Lib.hid e5
        have hs2 := Lib.hid hs
        clear e0 e3 e5 hs
        go_upto_region 15 with fail
        clear t0 t0n
        refine wp_region_relT 82 [] Ext (by kernel_rfl) (by kernel_rfl) (by kernel_rfl) (by kernel_rfl) (by kernel_rfl) Ext.refl Ext.trans (by intro p hp; cases hp) ?_
        refine relMove Ext.refl rfl rfl rfl rfl _ (.inl rfl) (by conv => lhs; whnf) (by simp only [List.set_cons_succ, List.set_cons_zero]; rfl) ?_
        refine relMove Ext.refl rfl rfl rfl rfl _ (.inl rfl) (by conv => lhs; whnf) (by simp only [List.set_cons_succ, List.set_cons_zero]; rfl) ?_
        refine relMove Ext.refl rfl rfl rfl rfl _ (.inl rfl) (by conv => lhs; whnf) (by simp only [List.set_cons_succ, List.set_cons_zero]; rfl) ?_
        refine relPure Ext.refl rfl rfl rfl rfl (fun w _ => by go_simp; first | done | rfl) (by simp only [List.set_cons_succ, List.set_cons_zero]; rfl) ?_
        refine relPure Ext.refl rfl rfl rfl rfl (c := .int .u32 (v4 : Int)) (fun w hw => by have := (ax.below hw.drew).cell 66 _ x4; go_simp; first | done | rfl) (by simp only [List.set_cons_succ, List.set_cons_zero]; rfl) ?_
        refine relPure Ext.refl rfl rfl rfl rfl (c := .bool true) (fun w _ => by go_simp; first | done | rfl) (by simp only [List.set_cons_succ, List.set_cons_zero]; rfl) ?_
        refine relPick Ext.refl rfl rfl rfl rfl _ _ _ rfl rfl (by conv => lhs; whnf) (by simp only [List.set_cons_succ, List.set_cons_zero]; rfl) ?_
        refine relMove Ext.refl rfl rfl rfl rfl _ (.inl rfl) (by conv => lhs; whnf) (by simp only [List.set_cons_succ, List.set_cons_zero]; rfl) ?_
        refine relMove Ext.refl rfl rfl rfl rfl _ (.inl rfl) (by conv => lhs; whnf) (by simp only [List.set_cons_succ, List.set_cons_zero]; rfl) ?_
        refine relPure Ext.refl rfl rfl rfl rfl (c := .slice (subA (some ⟨bb, off, none⟩) 80 4 1) 32 76) (fun w _ => by go_simp; first | done | rfl) (by simp only [List.set_cons_succ, List.set_cons_zero]; rfl) ?_
        refine relStr rfl rfl rfl rfl _ rfl (by conv => lhs; whnf) x.prev k.2.1 (fun w hw => by have := (((rx.below hw.drew).sub 80 4 1 (by rw [List.length_map, hV80.out]; exact Nat.le_refl _)).take 32); rw [Nat.mul_one, ← List.map_drop, ← List.map_take, hprev.out] at this; exact this) (by simp only [List.set_cons_succ, List.set_cons_zero]; rfl) ?_
        refine relPure Ext.refl rfl rfl rfl rfl (fun w _ => by go_simp; first | done | rfl) (by simp only [List.set_cons_succ, List.set_cons_zero]; rfl) ?_
        refine relPure Ext.refl rfl rfl rfl rfl (c := .slice (some ⟨H, 1, none⟩) 32 32) (fun w _ => by go_simp; first | done | rfl) (by simp only [List.set_cons_succ, List.set_cons_zero]; rfl) ?_
        refine relStr rfl rfl rfl rfl _ rfl (by conv => lhs; whnf) x.prev k.2.1 (fun w hw => rd_of_range (Av.hd_prev (ax.below hw.drew))) (by simp only [List.set_cons_succ, List.set_cons_zero]; rfl) ?_
        refine relBin Ext.refl rfl rfl rfl rfl _ _ _ _ _ rfl (by conv => lhs; whnf) (by conv => lhs; whnf) (c := .bool true) (fun w => by go_simp) (by simp only [List.set_cons_succ, List.set_cons_zero]; rfl) ?_
        refine relPick Ext.refl rfl rfl rfl rfl _ _ _ rfl rfl (by conv => lhs; whnf) (by simp only [List.set_cons_succ, List.set_cons_zero]; rfl) ?_
        refine relMove Ext.refl rfl rfl rfl rfl _ (.inl rfl) (by conv => lhs; whnf) (by simp only [List.set_cons_succ, List.set_cons_zero]; rfl) ?_
        refine relMove Ext.refl rfl rfl rfl rfl _ (.inl rfl) (by conv => lhs; whnf) (by simp only [List.set_cons_succ, List.set_cons_zero]; rfl) ?_
        refine relPure Ext.refl rfl rfl rfl rfl (c := .slice (subA (some ⟨bb, off, none⟩) 80 36 1) 32 44) (fun w _ => by go_simp; first | done | rfl) (by simp only [List.set_cons_succ, List.set_cons_zero]; rfl) ?_
        refine relStr rfl rfl rfl rfl _ rfl (by conv => lhs; whnf) x.root k.2.2.1 (fun w hw => by have := (((rx.below hw.drew).sub 80 36 1 (by rw [List.length_map, hV80.out]; exact Nat.le_refl _)).take 32); rw [Nat.mul_one, ← List.map_drop, ← List.map_take, hroot.out] at this; exact this) (by simp only [List.set_cons_succ, List.set_cons_zero]; rfl) ?_
        refine relPure Ext.refl rfl rfl rfl rfl (fun w _ => by go_simp; first | done | rfl) (by simp only [List.set_cons_succ, List.set_cons_zero]; rfl) ?_
        refine relPure Ext.refl rfl rfl rfl rfl (c := .slice (some ⟨H, 33, none⟩) 32 32) (fun w _ => by go_simp; first | done | rfl) (by simp only [List.set_cons_succ, List.set_cons_zero]; rfl) ?_
        refine relStr rfl rfl rfl rfl _ rfl (by conv => lhs; whnf) x.root k.2.2.1 (fun w hw => rd_of_range (Av.hd_root k (ax.below hw.drew))) (by simp only [List.set_cons_succ, List.set_cons_zero]; rfl) ?_
        refine relBin Ext.refl rfl rfl rfl rfl _ _ _ _ _ rfl (by conv => lhs; whnf) (by conv => lhs; whnf) (c := .bool true) (fun w => by go_simp) (by simp only [List.set_cons_succ, List.set_cons_zero]; rfl) ?_
        refine relPick Ext.refl rfl rfl rfl rfl _ _ _ rfl rfl (by conv => lhs; whnf) (by simp only [List.set_cons_succ, List.set_cons_zero]; rfl) ?_
        refine relMove Ext.refl rfl rfl rfl rfl _ (.inl rfl) (by conv => lhs; whnf) (by simp only [List.set_cons_succ, List.set_cons_zero]; rfl) ?_
        refine relPure Ext.refl rfl rfl rfl rfl (c := .agg (hdc x).toArray) (fun w hw => exec_loadAv (ax.below hw.drew) _ _ rfl rfl _ 68 x68.out Tryd.underlying26 rfl (by kernel_rfl)) (by simp only [List.set_cons_succ, List.set_cons_zero]; rfl) ?_
        refine relCall1 rfl rfl rfl rfl (c := .agg (hcs dd)) 12 #[.agg (hdc x).toArray] (fun w => by go_simp) (fun w hw => (HId.out w (ht.below (bw11.trans (hw.drew.mono bw11.size)))).mono ?_) (by simp only [List.set_cons_succ, List.set_cons_zero]; rfl) ?_
        · rintro e w' ⟨rfl, hb⟩
          exact ⟨rfl, hb⟩
        refine relMove Ext.refl rfl rfl rfl rfl _ (.inl rfl) (by conv => lhs; whnf) (by simp only [List.set_cons_succ, List.set_cons_zero]; rfl) ?_
        refine relCall1 rfl rfl rfl rfl (c := .agg (hcs dd)) 16 #[.slice (some ⟨bb, off, none⟩) 80 80] (fun w => by go_simp) (fun w hw => (HD.out _ w (rx.below hw.drew) (ht.below (bw11.trans (hw.drew.mono bw11.size)))).mono ?_) (by simp only [List.set_cons_succ, List.set_cons_zero]; rfl) ?_
        · rintro e w' ⟨rfl, hb⟩
          exact ⟨rfl, hb⟩
        refine relBin Ext.refl rfl rfl rfl rfl _ _ _ _ _ rfl (by conv => lhs; whnf) (by conv => lhs; whnf) (c := .bool true) (fun w => ND.out _ _ w) (by simp only [List.set_cons_succ, List.set_cons_zero]; rfl) ?_
        refine relPick Ext.refl rfl rfl rfl rfl _ _ _ rfl rfl (by conv => lhs; whnf) (by simp only [List.set_cons_succ, List.set_cons_zero]; rfl) ?_
        refine relMove Ext.refl rfl rfl rfl rfl _ (.inl rfl) (by conv => lhs; whnf) (by simp only [List.set_cons_succ, List.set_cons_zero]; rfl) ?_
        refine relMove Ext.refl rfl rfl rfl rfl _ (.inl rfl) (by conv => lhs; whnf) (by simp only [List.set_cons_succ, List.set_cons_zero]; rfl) ?_
        refine relPure Ext.refl rfl rfl rfl rfl (c := .bool true) (fun w _ => by go_simp; first | done | rfl) (by simp only [List.set_cons_succ, List.set_cons_zero]; rfl) ?_
        refine relPick Ext.refl rfl rfl rfl rfl _ _ _ rfl rfl (by conv => lhs; whnf) (by simp only [List.set_cons_succ, List.set_cons_zero]; rfl) ?_
        refine relMove Ext.refl rfl rfl rfl rfl _ (.inl rfl) (by conv => lhs; whnf) (by simp only [List.set_cons_succ, List.set_cons_zero]; rfl) ?_
        refine relPure Ext.refl rfl rfl rfl rfl (c := .agg (hdc gg).toArray) (fun w hw => exec_loadAv (ag.below hw.drew) _ _ rfl rfl _ 68 g68.out Tryd.underlying26 rfl (by kernel_rfl)) (by simp only [List.set_cons_succ, List.set_cons_zero]; rfl) ?_
        refine relPure Ext.refl rfl rfl rfl rfl (c := .agg (hdc x).toArray) (fun w hw => exec_loadAv (ax.below hw.drew) _ _ rfl rfl _ 68 x68.out Tryd.underlying26 rfl (by kernel_rfl)) (by simp only [List.set_cons_succ, List.set_cons_zero]; rfl) ?_
        refine relBin Ext.refl rfl rfl rfl rfl _ _ _ _ _ rfl (by conv => lhs; whnf) (by conv => lhs; whnf) (c := .bool true) (fun w => NH.out _ _ w) (by simp only [List.set_cons_succ, List.set_cons_zero]; rfl) ?_
        refine relPick Ext.refl rfl rfl rfl rfl _ _ _ rfl rfl (by conv => lhs; whnf) (by simp only [List.set_cons_succ, List.set_cons_zero]; rfl) ?_
        refine relMove Ext.refl rfl rfl rfl rfl _ (.inl rfl) (by conv => lhs; whnf) (by simp only [List.set_cons_succ, List.set_cons_zero]; rfl) ?_
        refine relMove Ext.refl rfl rfl rfl rfl _ (.inl rfl) (by conv => lhs; whnf) (by simp only [List.set_cons_succ, List.set_cons_zero]; rfl) ?_
        refine relPick Ext.refl rfl rfl rfl rfl _ _ _ rfl rfl (by conv => lhs; whnf) (by simp only [List.set_cons_succ, List.set_cons_zero]; rfl) ?_
        refine relMove Ext.refl rfl rfl rfl rfl _ (.inl rfl) (by conv => lhs; whnf) (by simp only [List.set_cons_succ, List.set_cons_zero]; rfl) ?_
        refine relPure Ext.refl rfl rfl rfl rfl (fun w _ => by go_simp; first | done | rfl) (by simp only [List.set_cons_succ, List.set_cons_zero]; rfl) ?_
        refine relPure Ext.refl rfl rfl rfl rfl (c := .agg (hcs gg.prev)) (fun w hw => exec_load_mid _ _ rfl G 1 rfl (gg.prev.map bv) _ (Av.hd_prev (ag.below hw.drew)) Tryd.underlying24 rfl (by rw [gp32.out]; kernel_rfl)) (by simp only [List.set_cons_succ, List.set_cons_zero]; rfl) ?_
        refine relPure Ext.refl rfl rfl rfl rfl (fun w _ => by go_simp; first | done | rfl) (by simp only [List.set_cons_succ, List.set_cons_zero]; rfl) ?_
        refine relPure Ext.refl rfl rfl rfl rfl (c := .agg (hcs x.prev)) (fun w hw => exec_load_mid _ _ rfl H 1 rfl (x.prev.map bv) _ (Av.hd_prev (ax.below hw.drew)) Tryd.underlying24 rfl (by rw [xp32.out]; kernel_rfl)) (by simp only [List.set_cons_succ, List.set_cons_zero]; rfl) ?_
        refine relBin Ext.refl rfl rfl rfl rfl _ _ _ _ _ rfl (by conv => lhs; whnf) (by conv => lhs; whnf) (c := .bool false) (fun w => NP2.out _ _ w) (by simp only [List.set_cons_succ, List.set_cons_zero]; rfl) ?_
        refine relMove Ext.refl rfl rfl rfl rfl _ (.inl rfl) (by conv => lhs; whnf) (by simp only [List.set_cons_succ, List.set_cons_zero]; rfl) ?_
        refine relPure Ext.refl rfl rfl rfl rfl (c := .bool false) (fun w _ => by have := hs2.out; go_simp; first | done | rfl | omega) (by simp only [List.set_cons_succ, List.set_cons_zero]; rfl) ?_
        refine relMove Ext.refl rfl rfl rfl rfl _ (.inl rfl) (by conv => lhs; whnf) (by simp only [List.set_cons_succ, List.set_cons_zero]; rfl) ?_
        refine relSkip rfl rfl rfl rfl (by simp only [List.set_cons_succ, List.set_cons_zero]; rfl) ?_
        refine relSkip rfl rfl rfl rfl (by simp only [List.set_cons_succ, List.set_cons_zero]; rfl) ?_
        refine relPick Ext.refl rfl rfl rfl rfl _ _ _ rfl rfl (by conv => lhs; whnf) (by simp only [List.set_cons_succ, List.set_cons_zero]; rfl) ?_
        refine relPure Ext.refl rfl rfl rfl rfl (c := .bool true) (fun w _ => by go_simp; first | done | rfl) (by simp only [List.set_cons_succ, List.set_cons_zero]; rfl) ?_
        refine relPick Ext.refl rfl rfl rfl rfl _ _ _ rfl rfl (by conv => lhs; whnf) (by simp only [List.set_cons_succ, List.set_cons_zero]; rfl) ?_
        refine relMove Ext.refl rfl rfl rfl rfl _ (.inl rfl) (by conv => lhs; whnf) (by simp only [List.set_cons_succ, List.set_cons_zero]; rfl) ?_
        refine relPure Ext.refl rfl rfl rfl rfl (fun w _ => by go_simp; first | done | rfl) (by simp only [List.set_cons_succ, List.set_cons_zero]; rfl) ?_
        refine relPure Ext.refl rfl rfl rfl rfl (c := .int .u32 (u3 : Int)) (fun w hw => by have := (ag.below hw.drew).cell 65 _ g3; go_simp; first | done | rfl) (by simp only [List.set_cons_succ, List.set_cons_zero]; rfl) ?_
        refine relPure Ext.refl rfl rfl rfl rfl (fun w _ => by go_simp; first | done | rfl) (by simp only [List.set_cons_succ, List.set_cons_zero]; rfl) ?_
        refine relPure Ext.refl rfl rfl rfl rfl (c := .int .u32 (v3 : Int)) (fun w hw => by have := (ax.below hw.drew).cell 65 _ x3; go_simp; first | done | rfl) (by simp only [List.set_cons_succ, List.set_cons_zero]; rfl) ?_
        refine relPure Ext.refl rfl rfl rfl rfl (c := .bool false) (fun w _ => by have := s3.out; go_simp; first | done | rfl | omega) (by simp only [List.set_cons_succ, List.set_cons_zero]; rfl) ?_
        refine relMove Ext.refl rfl rfl rfl rfl _ (.inl rfl) (by conv => lhs; whnf) (by simp only [List.set_cons_succ, List.set_cons_zero]; rfl) ?_
        refine relPure Ext.refl rfl rfl rfl rfl (c := .bool false) (fun w _ => by have := hs2.out; go_simp; first | done | rfl | omega) (by simp only [List.set_cons_succ, List.set_cons_zero]; rfl) ?_
        refine relMove Ext.refl rfl rfl rfl rfl _ (.inl rfl) (by conv => lhs; whnf) (by simp only [List.set_cons_succ, List.set_cons_zero]; rfl) ?_
        refine relSkip rfl rfl rfl rfl (by simp only [List.set_cons_succ, List.set_cons_zero]; rfl) ?_
        refine relSkip rfl rfl rfl rfl (by simp only [List.set_cons_succ, List.set_cons_zero]; rfl) ?_
        refine relPick Ext.refl rfl rfl rfl rfl _ _ _ rfl rfl (by conv => lhs; whnf) (by simp only [List.set_cons_succ, List.set_cons_zero]; rfl) ?_
        refine relPure Ext.refl rfl rfl rfl rfl (c := .bool true) (fun w _ => by go_simp; first | done | rfl) (by simp only [List.set_cons_succ, List.set_cons_zero]; rfl) ?_
        refine relPick Ext.refl rfl rfl rfl rfl _ _ _ rfl rfl (by conv => lhs; whnf) (by simp only [List.set_cons_succ, List.set_cons_zero]; rfl) ?_
        refine relMove Ext.refl rfl rfl rfl rfl _ (.inl rfl) (by conv => lhs; whnf) (by simp only [List.set_cons_succ, List.set_cons_zero]; rfl) ?_
        refine relPure Ext.refl rfl rfl rfl rfl (fun w _ => by go_simp; first | done | rfl) (by simp only [List.set_cons_succ, List.set_cons_zero]; rfl) ?_
        refine relPure Ext.refl rfl rfl rfl rfl (c := .int .u32 (u5 : Int)) (fun w hw => by have := (ag.below hw.drew).cell 67 _ g5; go_simp; first | done | rfl) (by simp only [List.set_cons_succ, List.set_cons_zero]; rfl) ?_
        refine relPure Ext.refl rfl rfl rfl rfl (fun w _ => by go_simp; first | done | rfl) (by simp only [List.set_cons_succ, List.set_cons_zero]; rfl) ?_
        refine relPure Ext.refl rfl rfl rfl rfl (c := .int .u32 (v5 : Int)) (fun w hw => by have := (ax.below hw.drew).cell 67 _ x5; go_simp; first | done | rfl) (by simp only [List.set_cons_succ, List.set_cons_zero]; rfl) ?_
        refine relPure Ext.refl rfl rfl rfl rfl (c := .bool false) (fun w _ => by have := s5.out; go_simp; first | done | rfl | omega) (by simp only [List.set_cons_succ, List.set_cons_zero]; rfl) ?_
        refine relMove Ext.refl rfl rfl rfl rfl _ (.inl rfl) (by conv => lhs; whnf) (by simp only [List.set_cons_succ, List.set_cons_zero]; rfl) ?_
        refine relPure Ext.refl rfl rfl rfl rfl (c := .bool false) (fun w _ => by have := hs2.out; go_simp; first | done | rfl | omega) (by simp only [List.set_cons_succ, List.set_cons_zero]; rfl) ?_
        refine relPure Ext.refl rfl rfl rfl rfl (c := .bool true) (fun w _ => by go_simp; first | done | rfl) (by simp only [List.set_cons_succ, List.set_cons_zero]; rfl) ?_
        refine relPick Ext.refl rfl rfl rfl rfl _ _ _ rfl rfl (by conv => lhs; whnf) (by simp only [List.set_cons_succ, List.set_cons_zero]; rfl) ?_
        refine relEnd fun w14 hw14 => fill_end ?_
        go_wp2
        go_ret
        exact ⟨rfl, bw11.trans (hw14.drew.mono bw11.size)⟩
      · have e0 : u0 = v0 := by have := f0.out; omega
        have e3 : u3 = v3 := by have := f3.out; omega
        have e5 : u5 = v5 := by have := f5.out; omega
        have ep : decide (¬ (4 ≤ i ∧ i < 36)) = false := by exact decide_eq_false (by omega)
        have NP2 := NP.out
        rw [ep] at NP2
        replace NP2 := Lib.hid NP2
        replace ep := Lib.hid ep
        have t0 : ((u0 : Int) == (v0 : Int)) = true := by simp; omega
        have t0n : ((u0 : Int) != (v0 : Int)) = false := by simp; omega
        have t4 : decide ((4 : Int) ≤ (i : Int)) = true := by simp; omega
        have t4b : decide ((i : Int) < 4) = false := by simp; omega
        have s0 := Lib.hid e0
        have s3 := Lib.hid e3
        have s5 := Lib.hid e5
        have hs2 := Lib.hid hs
        clear e0 e3 e5 hs
        go_upto_region 15 with fail
        clear t0 t0n
        refine wp_region_relT 82 [] Ext (by kernel_rfl) (by kernel_rfl) (by kernel_rfl) (by kernel_rfl) (by kernel_rfl) Ext.refl Ext.trans (by intro p hp; cases hp) ?_
        refine relMove Ext.refl rfl rfl rfl rfl _ (.inl rfl) (by conv => lhs; whnf) (by simp only [List.set_cons_succ, List.set_cons_zero]; rfl) ?_
        refine relMove Ext.refl rfl rfl rfl rfl _ (.inl rfl) (by conv => lhs; whnf) (by simp only [List.set_cons_succ, List.set_cons_zero]; rfl) ?_
        refine relMove Ext.refl rfl rfl rfl rfl _ (.inl rfl) (by conv => lhs; whnf) (by simp only [List.set_cons_succ, List.set_cons_zero]; rfl) ?_
        refine relPure Ext.refl rfl rfl rfl rfl (fun w _ => by go_simp; first | done | rfl) (by simp only [List.set_cons_succ, List.set_cons_zero]; rfl) ?_
        refine relPure Ext.refl rfl rfl rfl rfl (c := .int .u32 (v4 : Int)) (fun w hw => by have := (ax.below hw.drew).cell 66 _ x4; go_simp; first | done | rfl) (by simp only [List.set_cons_succ, List.set_cons_zero]; rfl) ?_
        refine relPure Ext.refl rfl rfl rfl rfl (c := .bool true) (fun w _ => by go_simp; first | done | rfl) (by simp only [List.set_cons_succ, List.set_cons_zero]; rfl) ?_
        refine relPick Ext.refl rfl rfl rfl rfl _ _ _ rfl rfl (by conv => lhs; whnf) (by simp only [List.set_cons_succ, List.set_cons_zero]; rfl) ?_
        refine relMove Ext.refl rfl rfl rfl rfl _ (.inl rfl) (by conv => lhs; whnf) (by simp only [List.set_cons_succ, List.set_cons_zero]; rfl) ?_
        refine relMove Ext.refl rfl rfl rfl rfl _ (.inl rfl) (by conv => lhs; whnf) (by simp only [List.set_cons_succ, List.set_cons_zero]; rfl) ?_
        refine relPure Ext.refl rfl rfl rfl rfl (c := .slice (subA (some ⟨bb, off, none⟩) 80 4 1) 32 76) (fun w _ => by go_simp; first | done | rfl) (by simp only [List.set_cons_succ, List.set_cons_zero]; rfl) ?_
        refine relStr rfl rfl rfl rfl _ rfl (by conv => lhs; whnf) x.prev k.2.1 (fun w hw => by have := (((rx.below hw.drew).sub 80 4 1 (by rw [List.length_map, hV80.out]; exact Nat.le_refl _)).take 32); rw [Nat.mul_one, ← List.map_drop, ← List.map_take, hprev.out] at this; exact this) (by simp only [List.set_cons_succ, List.set_cons_zero]; rfl) ?_
        refine relPure Ext.refl rfl rfl rfl rfl (fun w _ => by go_simp; first | done | rfl) (by simp only [List.set_cons_succ, List.set_cons_zero]; rfl) ?_
        refine relPure Ext.refl rfl rfl rfl rfl (c := .slice (some ⟨H, 1, none⟩) 32 32) (fun w _ => by go_simp; first | done | rfl) (by simp only [List.set_cons_succ, List.set_cons_zero]; rfl) ?_
        refine relStr rfl rfl rfl rfl _ rfl (by conv => lhs; whnf) x.prev k.2.1 (fun w hw => rd_of_range (Av.hd_prev (ax.below hw.drew))) (by simp only [List.set_cons_succ, List.set_cons_zero]; rfl) ?_
        refine relBin Ext.refl rfl rfl rfl rfl _ _ _ _ _ rfl (by conv => lhs; whnf) (by conv => lhs; whnf) (c := .bool true) (fun w => by go_simp) (by simp only [List.set_cons_succ, List.set_cons_zero]; rfl) ?_
        refine relPick Ext.refl rfl rfl rfl rfl _ _ _ rfl rfl (by conv => lhs; whnf) (by simp only [List.set_cons_succ, List.set_cons_zero]; rfl) ?_
        refine relMove Ext.refl rfl rfl rfl rfl _ (.inl rfl) (by conv => lhs; whnf) (by simp only [List.set_cons_succ, List.set_cons_zero]; rfl) ?_
        refine relMove Ext.refl rfl rfl rfl rfl _ (.inl rfl) (by conv => lhs; whnf) (by simp only [List.set_cons_succ, List.set_cons_zero]; rfl) ?_
        refine relPure Ext.refl rfl rfl rfl rfl (c := .slice (subA (some ⟨bb, off, none⟩) 80 36 1) 32 44) (fun w _ => by go_simp; first | done | rfl) (by simp only [List.set_cons_succ, List.set_cons_zero]; rfl) ?_
        refine relStr rfl rfl rfl rfl _ rfl (by conv => lhs; whnf) x.root k.2.2.1 (fun w hw => by have := (((rx.below hw.drew).sub 80 36 1 (by rw [List.length_map, hV80.out]; exact Nat.le_refl _)).take 32); rw [Nat.mul_one, ← List.map_drop, ← List.map_take, hroot.out] at this; exact this) (by simp only [List.set_cons_succ, List.set_cons_zero]; rfl) ?_
        refine relPure Ext.refl rfl rfl rfl rfl (fun w _ => by go_simp; first | done | rfl) (by simp only [List.set_cons_succ, List.set_cons_zero]; rfl) ?_
        refine relPure Ext.refl rfl rfl rfl rfl (c := .slice (some ⟨H, 33, none⟩) 32 32) (fun w _ => by go_simp; first | done | rfl) (by simp only [List.set_cons_succ, List.set_cons_zero]; rfl) ?_
        refine relStr rfl rfl rfl rfl _ rfl (by conv => lhs; whnf) x.root k.2.2.1 (fun w hw => rd_of_range (Av.hd_root k (ax.below hw.drew))) (by simp only [List.set_cons_succ, List.set_cons_zero]; rfl) ?_
        refine relBin Ext.refl rfl rfl rfl rfl _ _ _ _ _ rfl (by conv => lhs; whnf) (by conv => lhs; whnf) (c := .bool true) (fun w => by go_simp) (by simp only [List.set_cons_succ, List.set_cons_zero]; rfl) ?_
        refine relPick Ext.refl rfl rfl rfl rfl _ _ _ rfl rfl (by conv => lhs; whnf) (by simp only [List.set_cons_succ, List.set_cons_zero]; rfl) ?_
        refine relMove Ext.refl rfl rfl rfl rfl _ (.inl rfl) (by conv => lhs; whnf) (by simp only [List.set_cons_succ, List.set_cons_zero]; rfl) ?_
        refine relPure Ext.refl rfl rfl rfl rfl (c := .agg (hdc x).toArray) (fun w hw => exec_loadAv (ax.below hw.drew) _ _ rfl rfl _ 68 x68.out Tryd.underlying26 rfl (by kernel_rfl)) (by simp only [List.set_cons_succ, List.set_cons_zero]; rfl) ?_
        refine relCall1 rfl rfl rfl rfl (c := .agg (hcs dd)) 12 #[.agg (hdc x).toArray] (fun w => by go_simp) (fun w hw => (HId.out w (ht.below (bw11.trans (hw.drew.mono bw11.size)))).mono ?_) (by simp only [List.set_cons_succ, List.set_cons_zero]; rfl) ?_
        · rintro e w' ⟨rfl, hb⟩
          exact ⟨rfl, hb⟩
        refine relMove Ext.refl rfl rfl rfl rfl _ (.inl rfl) (by conv => lhs; whnf) (by simp only [List.set_cons_succ, List.set_cons_zero]; rfl) ?_
        refine relCall1 rfl rfl rfl rfl (c := .agg (hcs dd)) 16 #[.slice (some ⟨bb, off, none⟩) 80 80] (fun w => by go_simp) (fun w hw => (HD.out _ w (rx.below hw.drew) (ht.below (bw11.trans (hw.drew.mono bw11.size)))).mono ?_) (by simp only [List.set_cons_succ, List.set_cons_zero]; rfl) ?_
        · rintro e w' ⟨rfl, hb⟩
          exact ⟨rfl, hb⟩
        refine relBin Ext.refl rfl rfl rfl rfl _ _ _ _ _ rfl (by conv => lhs; whnf) (by conv => lhs; whnf) (c := .bool true) (fun w => ND.out _ _ w) (by simp only [List.set_cons_succ, List.set_cons_zero]; rfl) ?_
        refine relPick Ext.refl rfl rfl rfl rfl _ _ _ rfl rfl (by conv => lhs; whnf) (by simp only [List.set_cons_succ, List.set_cons_zero]; rfl) ?_
        refine relMove Ext.refl rfl rfl rfl rfl _ (.inl rfl) (by conv => lhs; whnf) (by simp only [List.set_cons_succ, List.set_cons_zero]; rfl) ?_
        refine relMove Ext.refl rfl rfl rfl rfl _ (.inl rfl) (by conv => lhs; whnf) (by simp only [List.set_cons_succ, List.set_cons_zero]; rfl) ?_
        refine relPure Ext.refl rfl rfl rfl rfl (c := .bool true) (fun w _ => by go_simp; first | done | rfl) (by simp only [List.set_cons_succ, List.set_cons_zero]; rfl) ?_
        refine relPick Ext.refl rfl rfl rfl rfl _ _ _ rfl rfl (by conv => lhs; whnf) (by simp only [List.set_cons_succ, List.set_cons_zero]; rfl) ?_
        refine relMove Ext.refl rfl rfl rfl rfl _ (.inl rfl) (by conv => lhs; whnf) (by simp only [List.set_cons_succ, List.set_cons_zero]; rfl) ?_
        refine relPure Ext.refl rfl rfl rfl rfl (c := .agg (hdc gg).toArray) (fun w hw => exec_loadAv (ag.below hw.drew) _ _ rfl rfl _ 68 g68.out Tryd.underlying26 rfl (by kernel_rfl)) (by simp only [List.set_cons_succ, List.set_cons_zero]; rfl) ?_
        refine relPure Ext.refl rfl rfl rfl rfl (c := .agg (hdc x).toArray) (fun w hw => exec_loadAv (ax.below hw.drew) _ _ rfl rfl _ 68 x68.out Tryd.underlying26 rfl (by kernel_rfl)) (by simp only [List.set_cons_succ, List.set_cons_zero]; rfl) ?_
        refine relBin Ext.refl rfl rfl rfl rfl _ _ _ _ _ rfl (by conv => lhs; whnf) (by conv => lhs; whnf) (c := .bool true) (fun w => NH.out _ _ w) (by simp only [List.set_cons_succ, List.set_cons_zero]; rfl) ?_
        refine relPick Ext.refl rfl rfl rfl rfl _ _ _ rfl rfl (by conv => lhs; whnf) (by simp only [List.set_cons_succ, List.set_cons_zero]; rfl) ?_
        refine relMove Ext.refl rfl rfl rfl rfl _ (.inl rfl) (by conv => lhs; whnf) (by simp only [List.set_cons_succ, List.set_cons_zero]; rfl) ?_
        refine relMove Ext.refl rfl rfl rfl rfl _ (.inl rfl) (by conv => lhs; whnf) (by simp only [List.set_cons_succ, List.set_cons_zero]; rfl) ?_
        refine relPick Ext.refl rfl rfl rfl rfl _ _ _ rfl rfl (by conv => lhs; whnf) (by simp only [List.set_cons_succ, List.set_cons_zero]; rfl) ?_
        refine relMove Ext.refl rfl rfl rfl rfl _ (.inl rfl) (by conv => lhs; whnf) (by simp only [List.set_cons_succ, List.set_cons_zero]; rfl) ?_
        refine relPure Ext.refl rfl rfl rfl rfl (fun w _ => by go_simp; first | done | rfl) (by simp only [List.set_cons_succ, List.set_cons_zero]; rfl) ?_
        refine relPure Ext.refl rfl rfl rfl rfl (c := .agg (hcs gg.prev)) (fun w hw => exec_load_mid _ _ rfl G 1 rfl (gg.prev.map bv) _ (Av.hd_prev (ag.below hw.drew)) Tryd.underlying24 rfl (by rw [gp32.out]; kernel_rfl)) (by simp only [List.set_cons_succ, List.set_cons_zero]; rfl) ?_
        refine relPure Ext.refl rfl rfl rfl rfl (fun w _ => by go_simp; first | done | rfl) (by simp only [List.set_cons_succ, List.set_cons_zero]; rfl) ?_
        refine relPure Ext.refl rfl rfl rfl rfl (c := .agg (hcs x.prev)) (fun w hw => exec_load_mid _ _ rfl H 1 rfl (x.prev.map bv) _ (Av.hd_prev (ax.below hw.drew)) Tryd.underlying24 rfl (by rw [xp32.out]; kernel_rfl)) (by simp only [List.set_cons_succ, List.set_cons_zero]; rfl) ?_
        refine relBin Ext.refl rfl rfl rfl rfl _ _ _ _ _ rfl (by conv => lhs; whnf) (by conv => lhs; whnf) (c := .bool true) (fun w => NP2.out _ _ w) (by simp only [List.set_cons_succ, List.set_cons_zero]; rfl) ?_
        refine relMove Ext.refl rfl rfl rfl rfl _ (.inl rfl) (by conv => lhs; whnf) (by simp only [List.set_cons_succ, List.set_cons_zero]; rfl) ?_
        refine relPure Ext.refl rfl rfl rfl rfl (c := .bool true) (fun w _ => by have := hs2.out; go_simp; first | done | rfl | omega) (by simp only [List.set_cons_succ, List.set_cons_zero]; rfl) ?_
        refine relMove Ext.refl rfl rfl rfl rfl _ (.inl rfl) (by conv => lhs; whnf) (by simp only [List.set_cons_succ, List.set_cons_zero]; rfl) ?_
        refine relMove Ext.refl rfl rfl rfl rfl _ (.inl rfl) (by conv => lhs; whnf) (by simp only [List.set_cons_succ, List.set_cons_zero]; rfl) ?_
        refine relPure Ext.refl rfl rfl rfl rfl (c := .bool true) (fun w _ => by have := hs2.out; go_simp; first | done | rfl | omega) (by simp only [List.set_cons_succ, List.set_cons_zero]; rfl) ?_
        refine relPick Ext.refl rfl rfl rfl rfl _ _ _ rfl rfl (by conv => lhs; whnf) (by simp only [List.set_cons_succ, List.set_cons_zero]; rfl) ?_
        refine relPure Ext.refl rfl rfl rfl rfl (c := .bool true) (fun w _ => by go_simp; first | done | rfl) (by simp only [List.set_cons_succ, List.set_cons_zero]; rfl) ?_
        refine relPick Ext.refl rfl rfl rfl rfl _ _ _ rfl rfl (by conv => lhs; whnf) (by simp only [List.set_cons_succ, List.set_cons_zero]; rfl) ?_
        refine relMove Ext.refl rfl rfl rfl rfl _ (.inl rfl) (by conv => lhs; whnf) (by simp only [List.set_cons_succ, List.set_cons_zero]; rfl) ?_
        refine relPure Ext.refl rfl rfl rfl rfl (fun w _ => by go_simp; first | done | rfl) (by simp only [List.set_cons_succ, List.set_cons_zero]; rfl) ?_
        refine relPure Ext.refl rfl rfl rfl rfl (c := .int .u32 (u3 : Int)) (fun w hw => by have := (ag.below hw.drew).cell 65 _ g3; go_simp; first | done | rfl) (by simp only [List.set_cons_succ, List.set_cons_zero]; rfl) ?_
        refine relPure Ext.refl rfl rfl rfl rfl (fun w _ => by go_simp; first | done | rfl) (by simp only [List.set_cons_succ, List.set_cons_zero]; rfl) ?_
        refine relPure Ext.refl rfl rfl rfl rfl (c := .int .u32 (v3 : Int)) (fun w hw => by have := (ax.below hw.drew).cell 65 _ x3; go_simp; first | done | rfl) (by simp only [List.set_cons_succ, List.set_cons_zero]; rfl) ?_
        refine relPure Ext.refl rfl rfl rfl rfl (c := .bool false) (fun w _ => by have := s3.out; go_simp; first | done | rfl | omega) (by simp only [List.set_cons_succ, List.set_cons_zero]; rfl) ?_
        refine relMove Ext.refl rfl rfl rfl rfl _ (.inl rfl) (by conv => lhs; whnf) (by simp only [List.set_cons_succ, List.set_cons_zero]; rfl) ?_
        refine relPure Ext.refl rfl rfl rfl rfl (c := .bool false) (fun w _ => by have := hs2.out; go_simp; first | done | rfl | omega) (by simp only [List.set_cons_succ, List.set_cons_zero]; rfl) ?_
        refine relMove Ext.refl rfl rfl rfl rfl _ (.inl rfl) (by conv => lhs; whnf) (by simp only [List.set_cons_succ, List.set_cons_zero]; rfl) ?_
        refine relSkip rfl rfl rfl rfl (by simp only [List.set_cons_succ, List.set_cons_zero]; rfl) ?_
        refine relSkip rfl rfl rfl rfl (by simp only [List.set_cons_succ, List.set_cons_zero]; rfl) ?_
        refine relPick Ext.refl rfl rfl rfl rfl _ _ _ rfl rfl (by conv => lhs; whnf) (by simp only [List.set_cons_succ, List.set_cons_zero]; rfl) ?_
        refine relPure Ext.refl rfl rfl rfl rfl (c := .bool true) (fun w _ => by go_simp; first | done | rfl) (by simp only [List.set_cons_succ, List.set_cons_zero]; rfl) ?_
        refine relPick Ext.refl rfl rfl rfl rfl _ _ _ rfl rfl (by conv => lhs; whnf) (by simp only [List.set_cons_succ, List.set_cons_zero]; rfl) ?_
        refine relMove Ext.refl rfl rfl rfl rfl _ (.inl rfl) (by conv => lhs; whnf) (by simp only [List.set_cons_succ, List.set_cons_zero]; rfl) ?_
        refine relPure Ext.refl rfl rfl rfl rfl (fun w _ => by go_simp; first | done | rfl) (by simp only [List.set_cons_succ, List.set_cons_zero]; rfl) ?_
        refine relPure Ext.refl rfl rfl rfl rfl (c := .int .u32 (u5 : Int)) (fun w hw => by have := (ag.below hw.drew).cell 67 _ g5; go_simp; first | done | rfl) (by simp only [List.set_cons_succ, List.set_cons_zero]; rfl) ?_
        refine relPure Ext.refl rfl rfl rfl rfl (fun w _ => by go_simp; first | done | rfl) (by simp only [List.set_cons_succ, List.set_cons_zero]; rfl) ?_
        refine relPure Ext.refl rfl rfl rfl rfl (c := .int .u32 (v5 : Int)) (fun w hw => by have := (ax.below hw.drew).cell 67 _ x5; go_simp; first | done | rfl) (by simp only [List.set_cons_succ, List.set_cons_zero]; rfl) ?_
        refine relPure Ext.refl rfl rfl rfl rfl (c := .bool false) (fun w _ => by have := s5.out; go_simp; first | done | rfl | omega) (by simp only [List.set_cons_succ, List.set_cons_zero]; rfl) ?_
        refine relMove Ext.refl rfl rfl rfl rfl _ (.inl rfl) (by conv => lhs; whnf) (by simp only [List.set_cons_succ, List.set_cons_zero]; rfl) ?_
        refine relPure Ext.refl rfl rfl rfl rfl (c := .bool false) (fun w _ => by have := hs2.out; go_simp; first | done | rfl | omega) (by simp only [List.set_cons_succ, List.set_cons_zero]; rfl) ?_
        refine relPure Ext.refl rfl rfl rfl rfl (c := .bool true) (fun w _ => by go_simp; first | done | rfl) (by simp only [List.set_cons_succ, List.set_cons_zero]; rfl) ?_
        refine relPick Ext.refl rfl rfl rfl rfl _ _ _ rfl rfl (by conv => lhs; whnf) (by simp only [List.set_cons_succ, List.set_cons_zero]; rfl) ?_
        refine relEnd fun w14 hw14 => fill_end ?_
        go_wp2
        go_ret
        exact ⟨rfl, bw11.trans (hw14.drew.mono bw11.size)⟩
      · have e0 : u0 = v0 := by have := f0.out; omega
        have e3 : u3 = v3 := by have := f3.out; omega
        have e5 : u5 = v5 := by have := f5.out; omega
        have ep : decide (¬ (4 ≤ i ∧ i < 36)) = true := by exact decide_eq_true (by omega)
        have NP2 := NP.out
        rw [ep] at NP2
        replace NP2 := Lib.hid NP2
        replace ep := Lib.hid ep
        have t0 : ((u0 : Int) == (v0 : Int)) = true := by simp; omega
        have t0n : ((u0 : Int) != (v0 : Int)) = false := by simp; omega
        have t4 : decide ((4 : Int) ≤ (i : Int)) = true := by simp; omega
        have t4b : decide ((i : Int) < 4) = false := by simp; omega
        have s0 := Lib.hid e0
        have s3 := Lib.hid e3
        have s5 := Lib.hid e5
        have hs2 := Lib.hid hs
        clear e0 e3 e5 hs
        go_upto_region 15 with fail
        clear t0 t0n
        refine wp_region_relT 82 [] Ext (by kernel_rfl) (by kernel_rfl) (by kernel_rfl) (by kernel_rfl) (by kernel_rfl) Ext.refl Ext.trans (by intro p hp; cases hp) ?_
        refine relMove Ext.refl rfl rfl rfl rfl _ (.inl rfl) (by conv => lhs; whnf) (by simp only [List.set_cons_succ, List.set_cons_zero]; rfl) ?_
        refine relMove Ext.refl rfl rfl rfl rfl _ (.inl rfl) (by conv => lhs; whnf) (by simp only [List.set_cons_succ, List.set_cons_zero]; rfl) ?_
        refine relMove Ext.refl rfl rfl rfl rfl _ (.inl rfl) (by conv => lhs; whnf) (by simp only [List.set_cons_succ, List.set_cons_zero]; rfl) ?_
        refine relPure Ext.refl rfl rfl rfl rfl (fun w _ => by go_simp; first | done | rfl) (by simp only [List.set_cons_succ, List.set_cons_zero]; rfl) ?_
        refine relPure Ext.refl rfl rfl rfl rfl (c := .int .u32 (v4 : Int)) (fun w hw => by have := (ax.below hw.drew).cell 66 _ x4; go_simp; first | done | rfl) (by simp only [List.set_cons_succ, List.set_cons_zero]; rfl) ?_
        refine relPure Ext.refl rfl rfl rfl rfl (c := .bool true) (fun w _ => by go_simp; first | done | rfl) (by simp only [List.set_cons_succ, List.set_cons_zero]; rfl) ?_
        refine relPick Ext.refl rfl rfl rfl rfl _ _ _ rfl rfl (by conv => lhs; whnf) (by simp only [List.set_cons_succ, List.set_cons_zero]; rfl) ?_
        refine relMove Ext.refl rfl rfl rfl rfl _ (.inl rfl) (by conv => lhs; whnf) (by simp only [List.set_cons_succ, List.set_cons_zero]; rfl) ?_
        refine relMove Ext.refl rfl rfl rfl rfl _ (.inl rfl) (by conv => lhs; whnf) (by simp only [List.set_cons_succ, List.set_cons_zero]; rfl) ?_
        refine relPure Ext.refl rfl rfl rfl rfl (c := .slice (subA (some ⟨bb, off, none⟩) 80 4 1) 32 76) (fun w _ => by go_simp; first | done | rfl) (by simp only [List.set_cons_succ, List.set_cons_zero]; rfl) ?_
        refine relStr rfl rfl rfl rfl _ rfl (by conv => lhs; whnf) x.prev k.2.1 (fun w hw => by have := (((rx.below hw.drew).sub 80 4 1 (by rw [List.length_map, hV80.out]; exact Nat.le_refl _)).take 32); rw [Nat.mul_one, ← List.map_drop, ← List.map_take, hprev.out] at this; exact this) (by simp only [List.set_cons_succ, List.set_cons_zero]; rfl) ?_
        refine relPure Ext.refl rfl rfl rfl rfl (fun w _ => by go_simp; first | done | rfl) (by simp only [List.set_cons_succ, List.set_cons_zero]; rfl) ?_
        refine relPure Ext.refl rfl rfl rfl rfl (c := .slice (some ⟨H, 1, none⟩) 32 32) (fun w _ => by go_simp; first | done | rfl) (by simp only [List.set_cons_succ, List.set_cons_zero]; rfl) ?_
        refine relStr rfl rfl rfl rfl _ rfl (by conv => lhs; whnf) x.prev k.2.1 (fun w hw => rd_of_range (Av.hd_prev (ax.below hw.drew))) (by simp only [List.set_cons_succ, List.set_cons_zero]; rfl) ?_
        refine relBin Ext.refl rfl rfl rfl rfl _ _ _ _ _ rfl (by conv => lhs; whnf) (by conv => lhs; whnf) (c := .bool true) (fun w => by go_simp) (by simp only [List.set_cons_succ, List.set_cons_zero]; rfl) ?_
        refine relPick Ext.refl rfl rfl rfl rfl _ _ _ rfl rfl (by conv => lhs; whnf) (by simp only [List.set_cons_succ, List.set_cons_zero]; rfl) ?_
        refine relMove Ext.refl rfl rfl rfl rfl _ (.inl rfl) (by conv => lhs; whnf) (by simp only [List.set_cons_succ, List.set_cons_zero]; rfl) ?_
        refine relMove Ext.refl rfl rfl rfl rfl _ (.inl rfl) (by conv => lhs; whnf) (by simp only [List.set_cons_succ, List.set_cons_zero]; rfl) ?_
        refine relPure Ext.refl rfl rfl rfl rfl (c := .slice (subA (some ⟨bb, off, none⟩) 80 36 1) 32 44) (fun w _ => by go_simp; first | done | rfl) (by simp only [List.set_cons_succ, List.set_cons_zero]; rfl) ?_
        refine relStr rfl rfl rfl rfl _ rfl (by conv => lhs; whnf) x.root k.2.2.1 (fun w hw => by have := (((rx.below hw.drew).sub 80 36 1 (by rw [List.length_map, hV80.out]; exact Nat.le_refl _)).take 32); rw [Nat.mul_one, ← List.map_drop, ← List.map_take, hroot.out] at this; exact this) (by simp only [List.set_cons_succ, List.set_cons_zero]; rfl) ?_
        refine relPure Ext.refl rfl rfl rfl rfl (fun w _ => by go_simp; first | done | rfl) (by simp only [List.set_cons_succ, List.set_cons_zero]; rfl) ?_
        refine relPure Ext.refl rfl rfl rfl rfl (c := .slice (some ⟨H, 33, none⟩) 32 32) (fun w _ => by go_simp; first | done | rfl) (by simp only [List.set_cons_succ, List.set_cons_zero]; rfl) ?_
        refine relStr rfl rfl rfl rfl _ rfl (by conv => lhs; whnf) x.root k.2.2.1 (fun w hw => rd_of_range (Av.hd_root k (ax.below hw.drew))) (by simp only [List.set_cons_succ, List.set_cons_zero]; rfl) ?_
        refine relBin Ext.refl rfl rfl rfl rfl _ _ _ _ _ rfl (by conv => lhs; whnf) (by conv => lhs; whnf) (c := .bool true) (fun w => by go_simp) (by simp only [List.set_cons_succ, List.set_cons_zero]; rfl) ?_
        refine relPick Ext.refl rfl rfl rfl rfl _ _ _ rfl rfl (by conv => lhs; whnf) (by simp only [List.set_cons_succ, List.set_cons_zero]; rfl) ?_
        refine relMove Ext.refl rfl rfl rfl rfl _ (.inl rfl) (by conv => lhs; whnf) (by simp only [List.set_cons_succ, List.set_cons_zero]; rfl) ?_
        refine relPure Ext.refl rfl rfl rfl rfl (c := .agg (hdc x).toArray) (fun w hw => exec_loadAv (ax.below hw.drew) _ _ rfl rfl _ 68 x68.out Tryd.underlying26 rfl (by kernel_rfl)) (by simp only [List.set_cons_succ, List.set_cons_zero]; rfl) ?_
        refine relCall1 rfl rfl rfl rfl (c := .agg (hcs dd)) 12 #[.agg (hdc x).toArray] (fun w => by go_simp) (fun w hw => (HId.out w (ht.below (bw11.trans (hw.drew.mono bw11.size)))).mono ?_) (by simp only [List.set_cons_succ, List.set_cons_zero]; rfl) ?_
        · rintro e w' ⟨rfl, hb⟩
          exact ⟨rfl, hb⟩
        refine relMove Ext.refl rfl rfl rfl rfl _ (.inl rfl) (by conv => lhs; whnf) (by simp only [List.set_cons_succ, List.set_cons_zero]; rfl) ?_
        refine relCall1 rfl rfl rfl rfl (c := .agg (hcs dd)) 16 #[.slice (some ⟨bb, off, none⟩) 80 80] (fun w => by go_simp) (fun w hw => (HD.out _ w (rx.below hw.drew) (ht.below (bw11.trans (hw.drew.mono bw11.size)))).mono ?_) (by simp only [List.set_cons_succ, List.set_cons_zero]; rfl) ?_
        · rintro e w' ⟨rfl, hb⟩
          exact ⟨rfl, hb⟩
        refine relBin Ext.refl rfl rfl rfl rfl _ _ _ _ _ rfl (by conv => lhs; whnf) (by conv => lhs; whnf) (c := .bool true) (fun w => ND.out _ _ w) (by simp only [List.set_cons_succ, List.set_cons_zero]; rfl) ?_
        refine relPick Ext.refl rfl rfl rfl rfl _ _ _ rfl rfl (by conv => lhs; whnf) (by simp only [List.set_cons_succ, List.set_cons_zero]; rfl) ?_
        refine relMove Ext.refl rfl rfl rfl rfl _ (.inl rfl) (by conv => lhs; whnf) (by simp only [List.set_cons_succ, List.set_cons_zero]; rfl) ?_
        refine relMove Ext.refl rfl rfl rfl rfl _ (.inl rfl) (by conv => lhs; whnf) (by simp only [List.set_cons_succ, List.set_cons_zero]; rfl) ?_
        refine relPure Ext.refl rfl rfl rfl rfl (c := .bool true) (fun w _ => by go_simp; first | done | rfl) (by simp only [List.set_cons_succ, List.set_cons_zero]; rfl) ?_
        refine relPick Ext.refl rfl rfl rfl rfl _ _ _ rfl rfl (by conv => lhs; whnf) (by simp only [List.set_cons_succ, List.set_cons_zero]; rfl) ?_
        refine relMove Ext.refl rfl rfl rfl rfl _ (.inl rfl) (by conv => lhs; whnf) (by simp only [List.set_cons_succ, List.set_cons_zero]; rfl) ?_
        refine relPure Ext.refl rfl rfl rfl rfl (c := .agg (hdc gg).toArray) (fun w hw => exec_loadAv (ag.below hw.drew) _ _ rfl rfl _ 68 g68.out Tryd.underlying26 rfl (by kernel_rfl)) (by simp only [List.set_cons_succ, List.set_cons_zero]; rfl) ?_
        refine relPure Ext.refl rfl rfl rfl rfl (c := .agg (hdc x).toArray) (fun w hw => exec_loadAv (ax.below hw.drew) _ _ rfl rfl _ 68 x68.out Tryd.underlying26 rfl (by kernel_rfl)) (by simp only [List.set_cons_succ, List.set_cons_zero]; rfl) ?_
        refine relBin Ext.refl rfl rfl rfl rfl _ _ _ _ _ rfl (by conv => lhs; whnf) (by conv => lhs; whnf) (c := .bool true) (fun w => NH.out _ _ w) (by simp only [List.set_cons_succ, List.set_cons_zero]; rfl) ?_
        refine relPick Ext.refl rfl rfl rfl rfl _ _ _ rfl rfl (by conv => lhs; whnf) (by simp only [List.set_cons_succ, List.set_cons_zero]; rfl) ?_
        refine relMove Ext.refl rfl rfl rfl rfl _ (.inl rfl) (by conv => lhs; whnf) (by simp only [List.set_cons_succ, List.set_cons_zero]; rfl) ?_
        refine relMove Ext.refl rfl rfl rfl rfl _ (.inl rfl) (by conv => lhs; whnf) (by simp only [List.set_cons_succ, List.set_cons_zero]; rfl) ?_
        refine relPick Ext.refl rfl rfl rfl rfl _ _ _ rfl rfl (by conv => lhs; whnf) (by simp only [List.set_cons_succ, List.set_cons_zero]; rfl) ?_
        refine relMove Ext.refl rfl rfl rfl rfl _ (.inl rfl) (by conv => lhs; whnf) (by simp only [List.set_cons_succ, List.set_cons_zero]; rfl) ?_
        refine relPure Ext.refl rfl rfl rfl rfl (fun w _ => by go_simp; first | done | rfl) (by simp only [List.set_cons_succ, List.set_cons_zero]; rfl) ?_
        refine relPure Ext.refl rfl rfl rfl rfl (c := .agg (hcs gg.prev)) (fun w hw => exec_load_mid _ _ rfl G 1 rfl (gg.prev.map bv) _ (Av.hd_prev (ag.below hw.drew)) Tryd.underlying24 rfl (by rw [gp32.out]; kernel_rfl)) (by simp only [List.set_cons_succ, List.set_cons_zero]; rfl) ?_
        refine relPure Ext.refl rfl rfl rfl rfl (fun w _ => by go_simp; first | done | rfl) (by simp only [List.set_cons_succ, List.set_cons_zero]; rfl) ?_
        refine relPure Ext.refl rfl rfl rfl rfl (c := .agg (hcs x.prev)) (fun w hw => exec_load_mid _ _ rfl H 1 rfl (x.prev.map bv) _ (Av.hd_prev (ax.below hw.drew)) Tryd.underlying24 rfl (by rw [xp32.out]; kernel_rfl)) (by simp only [List.set_cons_succ, List.set_cons_zero]; rfl) ?_
        refine relBin Ext.refl rfl rfl rfl rfl _ _ _ _ _ rfl (by conv => lhs; whnf) (by conv => lhs; whnf) (c := .bool false) (fun w => NP2.out _ _ w) (by simp only [List.set_cons_succ, List.set_cons_zero]; rfl) ?_
        refine relMove Ext.refl rfl rfl rfl rfl _ (.inl rfl) (by conv => lhs; whnf) (by simp only [List.set_cons_succ, List.set_cons_zero]; rfl) ?_
        refine relPure Ext.refl rfl rfl rfl rfl (c := .bool true) (fun w _ => by have := hs2.out; go_simp; first | done | rfl | omega) (by simp only [List.set_cons_succ, List.set_cons_zero]; rfl) ?_
        refine relMove Ext.refl rfl rfl rfl rfl _ (.inl rfl) (by conv => lhs; whnf) (by simp only [List.set_cons_succ, List.set_cons_zero]; rfl) ?_
        refine relMove Ext.refl rfl rfl rfl rfl _ (.inl rfl) (by conv => lhs; whnf) (by simp only [List.set_cons_succ, List.set_cons_zero]; rfl) ?_
        refine relPure Ext.refl rfl rfl rfl rfl (c := .bool false) (fun w _ => by have := hs2.out; go_simp; first | done | rfl | omega) (by simp only [List.set_cons_succ, List.set_cons_zero]; rfl) ?_
        refine relPick Ext.refl rfl rfl rfl rfl _ _ _ rfl rfl (by conv => lhs; whnf) (by simp only [List.set_cons_succ, List.set_cons_zero]; rfl) ?_
        refine relPure Ext.refl rfl rfl rfl rfl (c := .bool true) (fun w _ => by go_simp; first | done | rfl) (by simp only [List.set_cons_succ, List.set_cons_zero]; rfl) ?_
        refine relPick Ext.refl rfl rfl rfl rfl _ _ _ rfl rfl (by conv => lhs; whnf) (by simp only [List.set_cons_succ, List.set_cons_zero]; rfl) ?_
        refine relMove Ext.refl rfl rfl rfl rfl _ (.inl rfl) (by conv => lhs; whnf) (by simp only [List.set_cons_succ, List.set_cons_zero]; rfl) ?_
        refine relPure Ext.refl rfl rfl rfl rfl (fun w _ => by go_simp; first | done | rfl) (by simp only [List.set_cons_succ, List.set_cons_zero]; rfl) ?_
        refine relPure Ext.refl rfl rfl rfl rfl (c := .int .u32 (u3 : Int)) (fun w hw => by have := (ag.below hw.drew).cell 65 _ g3; go_simp; first | done | rfl) (by simp only [List.set_cons_succ, List.set_cons_zero]; rfl) ?_
        refine relPure Ext.refl rfl rfl rfl rfl (fun w _ => by go_simp; first | done | rfl) (by simp only [List.set_cons_succ, List.set_cons_zero]; rfl) ?_
        refine relPure Ext.refl rfl rfl rfl rfl (c := .int .u32 (v3 : Int)) (fun w hw => by have := (ax.below hw.drew).cell 65 _ x3; go_simp; first | done | rfl) (by simp only [List.set_cons_succ, List.set_cons_zero]; rfl) ?_
        refine relPure Ext.refl rfl rfl rfl rfl (c := .bool false) (fun w _ => by have := s3.out; go_simp; first | done | rfl | omega) (by simp only [List.set_cons_succ, List.set_cons_zero]; rfl) ?_
        refine relMove Ext.refl rfl rfl rfl rfl _ (.inl rfl) (by conv => lhs; whnf) (by simp only [List.set_cons_succ, List.set_cons_zero]; rfl) ?_
        refine relPure Ext.refl rfl rfl rfl rfl (c := .bool false) (fun w _ => by have := hs2.out; go_simp; first | done | rfl | omega) (by simp only [List.set_cons_succ, List.set_cons_zero]; rfl) ?_
        refine relMove Ext.refl rfl rfl rfl rfl _ (.inl rfl) (by conv => lhs; whnf) (by simp only [List.set_cons_succ, List.set_cons_zero]; rfl) ?_
        refine relSkip rfl rfl rfl rfl (by simp only [List.set_cons_succ, List.set_cons_zero]; rfl) ?_
        refine relSkip rfl rfl rfl rfl (by simp only [List.set_cons_succ, List.set_cons_zero]; rfl) ?_
        refine relPick Ext.refl rfl rfl rfl rfl _ _ _ rfl rfl (by conv => lhs; whnf) (by simp only [List.set_cons_succ, List.set_cons_zero]; rfl) ?_
        refine relPure Ext.refl rfl rfl rfl rfl (c := .bool true) (fun w _ => by go_simp; first | done | rfl) (by simp only [List.set_cons_succ, List.set_cons_zero]; rfl) ?_
        refine relPick Ext.refl rfl rfl rfl rfl _ _ _ rfl rfl (by conv => lhs; whnf) (by simp only [List.set_cons_succ, List.set_cons_zero]; rfl) ?_
        refine relMove Ext.refl rfl rfl rfl rfl _ (.inl rfl) (by conv => lhs; whnf) (by simp only [List.set_cons_succ, List.set_cons_zero]; rfl) ?_
        refine relPure Ext.refl rfl rfl rfl rfl (fun w _ => by go_simp; first | done | rfl) (by simp only [List.set_cons_succ, List.set_cons_zero]; rfl) ?_
        refine relPure Ext.refl rfl rfl rfl rfl (c := .int .u32 (u5 : Int)) (fun w hw => by have := (ag.below hw.drew).cell 67 _ g5; go_simp; first | done | rfl) (by simp only [List.set_cons_succ, List.set_cons_zero]; rfl) ?_
        refine relPure Ext.refl rfl rfl rfl rfl (fun w _ => by go_simp; first | done | rfl) (by simp only [List.set_cons_succ, List.set_cons_zero]; rfl) ?_
        refine relPure Ext.refl rfl rfl rfl rfl (c := .int .u32 (v5 : Int)) (fun w hw => by have := (ax.below hw.drew).cell 67 _ x5; go_simp; first | done | rfl) (by simp only [List.set_cons_succ, List.set_cons_zero]; rfl) ?_
        refine relPure Ext.refl rfl rfl rfl rfl (c := .bool false) (fun w _ => by have := s5.out; go_simp; first | done | rfl | omega) (by simp only [List.set_cons_succ, List.set_cons_zero]; rfl) ?_
        refine relMove Ext.refl rfl rfl rfl rfl _ (.inl rfl) (by conv => lhs; whnf) (by simp only [List.set_cons_succ, List.set_cons_zero]; rfl) ?_
        refine relPure Ext.refl rfl rfl rfl rfl (c := .bool false) (fun w _ => by have := hs2.out; go_simp; first | done | rfl | omega) (by simp only [List.set_cons_succ, List.set_cons_zero]; rfl) ?_
        refine relPure Ext.refl rfl rfl rfl rfl (c := .bool true) (fun w _ => by go_simp; first | done | rfl) (by simp only [List.set_cons_succ, List.set_cons_zero]; rfl) ?_
        refine relPick Ext.refl rfl rfl rfl rfl _ _ _ rfl rfl (by conv => lhs; whnf) (by simp only [List.set_cons_succ, List.set_cons_zero]; rfl) ?_
        refine relEnd fun w14 hw14 => fill_end ?_
        go_wp2
        go_ret
        exact ⟨rfl, bw11.trans (hw14.drew.mono bw11.size)⟩
      · have e0 : u0 = v0 := by have := f0.out; omega
        have e3 : ¬ u3 = v3 := by have := f3.out; omega
        have e5 : u5 = v5 := by have := f5.out; omega
        have ep : decide (¬ (4 ≤ i ∧ i < 36)) = true := by exact decide_eq_true (by omega)
        have NP2 := NP.out
        rw [ep] at NP2
        replace NP2 := Lib.hid NP2
        replace ep := Lib.hid ep
        have t0 : ((u0 : Int) == (v0 : Int)) = true := by simp; omega
        have t0n : ((u0 : Int) != (v0 : Int)) = false := by simp; omega
        have t4 : decide ((4 : Int) ≤ (i : Int)) = true := by simp; omega
        have t4b : decide ((i : Int) < 4) = false := by simp; omega
        have s0 := Lib.hid e0
        have s3 := Lib.hid e3
        have s5 := Lib.hid e5
        have hs2 := Lib.hid hs
        clear e0 e3 e5 hs
        go_upto_region 15 with fail
        clear t0 t0n
        refine wp_region_relT 82 [] Ext (by kernel_rfl) (by kernel_rfl) (by kernel_rfl) (by kernel_rfl) (by kernel_rfl) Ext.refl Ext.trans (by intro p hp; cases hp) ?_
        refine relMove Ext.refl rfl rfl rfl rfl _ (.inl rfl) (by conv => lhs; whnf) (by simp only [List.set_cons_succ, List.set_cons_zero]; rfl) ?_
        refine relMove Ext.refl rfl rfl rfl rfl _ (.inl rfl) (by conv => lhs; whnf) (by simp only [List.set_cons_succ, List.set_cons_zero]; rfl) ?_
        refine relMove Ext.refl rfl rfl rfl rfl _ (.inl rfl) (by conv => lhs; whnf) (by simp only [List.set_cons_succ, List.set_cons_zero]; rfl) ?_
        refine relPure Ext.refl rfl rfl rfl rfl (fun w _ => by go_simp; first | done | rfl) (by simp only [List.set_cons_succ, List.set_cons_zero]; rfl) ?_
        refine relPure Ext.refl rfl rfl rfl rfl (c := .int .u32 (v4 : Int)) (fun w hw => by have := (ax.below hw.drew).cell 66 _ x4; go_simp; first | done | rfl) (by simp only [List.set_cons_succ, List.set_cons_zero]; rfl) ?_
        refine relPure Ext.refl rfl rfl rfl rfl (c := .bool true) (fun w _ => by go_simp; first | done | rfl) (by simp only [List.set_cons_succ, List.set_cons_zero]; rfl) ?_
        refine relPick Ext.refl rfl rfl rfl rfl _ _ _ rfl rfl (by conv => lhs; whnf) (by simp only [List.set_cons_succ, List.set_cons_zero]; rfl) ?_
        refine relMove Ext.refl rfl rfl rfl rfl _ (.inl rfl) (by conv => lhs; whnf) (by simp only [List.set_cons_succ, List.set_cons_zero]; rfl) ?_
        refine relMove Ext.refl rfl rfl rfl rfl _ (.inl rfl) (by conv => lhs; whnf) (by simp only [List.set_cons_succ, List.set_cons_zero]; rfl) ?_
        refine relPure Ext.refl rfl rfl rfl rfl (c := .slice (subA (some ⟨bb, off, none⟩) 80 4 1) 32 76) (fun w _ => by go_simp; first | done | rfl) (by simp only [List.set_cons_succ, List.set_cons_zero]; rfl) ?_
        refine relStr rfl rfl rfl rfl _ rfl (by conv => lhs; whnf) x.prev k.2.1 (fun w hw => by have := (((rx.below hw.drew).sub 80 4 1 (by rw [List.length_map, hV80.out]; exact Nat.le_refl _)).take 32); rw [Nat.mul_one, ← List.map_drop, ← List.map_take, hprev.out] at this; exact this) (by simp only [List.set_cons_succ, List.set_cons_zero]; rfl) ?_
        refine relPure Ext.refl rfl rfl rfl rfl (fun w _ => by go_simp; first | done | rfl) (by simp only [List.set_cons_succ, List.set_cons_zero]; rfl) ?_
        refine relPure Ext.refl rfl rfl rfl rfl (c := .slice (some ⟨H, 1, none⟩) 32 32) (fun w _ => by go_simp; first | done | rfl) (by simp only [List.set_cons_succ, List.set_cons_zero]; rfl) ?_
        refine relStr rfl rfl rfl rfl _ rfl (by conv => lhs; whnf) x.prev k.2.1 (fun w hw => rd_of_range (Av.hd_prev (ax.below hw.drew))) (by simp only [List.set_cons_succ, List.set_cons_zero]; rfl) ?_
        refine relBin Ext.refl rfl rfl rfl rfl _ _ _ _ _ rfl (by conv => lhs; whnf) (by conv => lhs; whnf) (c := .bool true) (fun w => by go_simp) (by simp only [List.set_cons_succ, List.set_cons_zero]; rfl) ?_
        refine relPick Ext.refl rfl rfl rfl rfl _ _ _ rfl rfl (by conv => lhs; whnf) (by simp only [List.set_cons_succ, List.set_cons_zero]; rfl) ?_
        refine relMove Ext.refl rfl rfl rfl rfl _ (.inl rfl) (by conv => lhs; whnf) (by simp only [List.set_cons_succ, List.set_cons_zero]; rfl) ?_
        refine relMove Ext.refl rfl rfl rfl rfl _ (.inl rfl) (by conv => lhs; whnf) (by simp only [List.set_cons_succ, List.set_cons_zero]; rfl) ?_
        refine relPure Ext.refl rfl rfl rfl rfl (c := .slice (subA (some ⟨bb, off, none⟩) 80 36 1) 32 44) (fun w _ => by go_simp; first | done | rfl) (by simp only [List.set_cons_succ, List.set_cons_zero]; rfl) ?_
        refine relStr rfl rfl rfl rfl _ rfl (by conv => lhs; whnf) x.root k.2.2.1 (fun w hw => by have := (((rx.below hw.drew).sub 80 36 1 (by rw [List.length_map, hV80.out]; exact Nat.le_refl _)).take 32); rw [Nat.mul_one, ← List.map_drop, ← List.map_take, hroot.out] at this; exact this) (by simp only [List.set_cons_succ, List.set_cons_zero]; rfl) ?_
        refine relPure Ext.refl rfl rfl rfl rfl (fun w _ => by go_simp; first | done | rfl) (by simp only [List.set_cons_succ, List.set_cons_zero]; rfl) ?_
        refine relPure Ext.refl rfl rfl rfl rfl (c := .slice (some ⟨H, 33, none⟩) 32 32) (fun w _ => by go_simp; first | done | rfl) (by simp only [List.set_cons_succ, List.set_cons_zero]; rfl) ?_
        refine relStr rfl rfl rfl rfl _ rfl (by conv => lhs; whnf) x.root k.2.2.1 (fun w hw => rd_of_range (Av.hd_root k (ax.below hw.drew))) (by simp only [List.set_cons_succ, List.set_cons_zero]; rfl) ?_
        refine relBin Ext.refl rfl rfl rfl rfl _ _ _ _ _ rfl (by conv => lhs; whnf) (by conv => lhs; whnf) (c := .bool true) (fun w => by go_simp) (by simp only [List.set_cons_succ, List.set_cons_zero]; rfl) ?_
        refine relPick Ext.refl rfl rfl rfl rfl _ _ _ rfl rfl (by conv => lhs; whnf) (by simp only [List.set_cons_succ, List.set_cons_zero]; rfl) ?_
        refine relMove Ext.refl rfl rfl rfl rfl _ (.inl rfl) (by conv => lhs; whnf) (by simp only [List.set_cons_succ, List.set_cons_zero]; rfl) ?_
        refine relPure Ext.refl rfl rfl rfl rfl (c := .agg (hdc x).toArray) (fun w hw => exec_loadAv (ax.below hw.drew) _ _ rfl rfl _ 68 x68.out Tryd.underlying26 rfl (by kernel_rfl)) (by simp only [List.set_cons_succ, List.set_cons_zero]; rfl) ?_
        refine relCall1 rfl rfl rfl rfl (c := .agg (hcs dd)) 12 #[.agg (hdc x).toArray] (fun w => by go_simp) (fun w hw => (HId.out w (ht.below (bw11.trans (hw.drew.mono bw11.size)))).mono ?_) (by simp only [List.set_cons_succ, List.set_cons_zero]; rfl) ?_
        · rintro e w' ⟨rfl, hb⟩
          exact ⟨rfl, hb⟩
        refine relMove Ext.refl rfl rfl rfl rfl _ (.inl rfl) (by conv => lhs; whnf) (by simp only [List.set_cons_succ, List.set_cons_zero]; rfl) ?_
        refine relCall1 rfl rfl rfl rfl (c := .agg (hcs dd)) 16 #[.slice (some ⟨bb, off, none⟩) 80 80] (fun w => by go_simp) (fun w hw => (HD.out _ w (rx.below hw.drew) (ht.below (bw11.trans (hw.drew.mono bw11.size)))).mono ?_) (by simp only [List.set_cons_succ, List.set_cons_zero]; rfl) ?_
        · rintro e w' ⟨rfl, hb⟩
          exact ⟨rfl, hb⟩
        refine relBin Ext.refl rfl rfl rfl rfl _ _ _ _ _ rfl (by conv => lhs; whnf) (by conv => lhs; whnf) (c := .bool true) (fun w => ND.out _ _ w) (by simp only [List.set_cons_succ, List.set_cons_zero]; rfl) ?_
        refine relPick Ext.refl rfl rfl rfl rfl _ _ _ rfl rfl (by conv => lhs; whnf) (by simp only [List.set_cons_succ, List.set_cons_zero]; rfl) ?_
        refine relMove Ext.refl rfl rfl rfl rfl _ (.inl rfl) (by conv => lhs; whnf) (by simp only [List.set_cons_succ, List.set_cons_zero]; rfl) ?_
        refine relMove Ext.refl rfl rfl rfl rfl _ (.inl rfl) (by conv => lhs; whnf) (by simp only [List.set_cons_succ, List.set_cons_zero]; rfl) ?_
        refine relPure Ext.refl rfl rfl rfl rfl (c := .bool true) (fun w _ => by go_simp; first | done | rfl) (by simp only [List.set_cons_succ, List.set_cons_zero]; rfl) ?_
        refine relPick Ext.refl rfl rfl rfl rfl _ _ _ rfl rfl (by conv => lhs; whnf) (by simp only [List.set_cons_succ, List.set_cons_zero]; rfl) ?_
        refine relMove Ext.refl rfl rfl rfl rfl _ (.inl rfl) (by conv => lhs; whnf) (by simp only [List.set_cons_succ, List.set_cons_zero]; rfl) ?_
        refine relPure Ext.refl rfl rfl rfl rfl (c := .agg (hdc gg).toArray) (fun w hw => exec_loadAv (ag.below hw.drew) _ _ rfl rfl _ 68 g68.out Tryd.underlying26 rfl (by kernel_rfl)) (by simp only [List.set_cons_succ, List.set_cons_zero]; rfl) ?_
        refine relPure Ext.refl rfl rfl rfl rfl (c := .agg (hdc x).toArray) (fun w hw => exec_loadAv (ax.below hw.drew) _ _ rfl rfl _ 68 x68.out Tryd.underlying26 rfl (by kernel_rfl)) (by simp only [List.set_cons_succ, List.set_cons_zero]; rfl) ?_
        refine relBin Ext.refl rfl rfl rfl rfl _ _ _ _ _ rfl (by conv => lhs; whnf) (by conv => lhs; whnf) (c := .bool true) (fun w => NH.out _ _ w) (by simp only [List.set_cons_succ, List.set_cons_zero]; rfl) ?_
        refine relPick Ext.refl rfl rfl rfl rfl _ _ _ rfl rfl (by conv => lhs; whnf) (by simp only [List.set_cons_succ, List.set_cons_zero]; rfl) ?_
        refine relMove Ext.refl rfl rfl rfl rfl _ (.inl rfl) (by conv => lhs; whnf) (by simp only [List.set_cons_succ, List.set_cons_zero]; rfl) ?_
        refine relMove Ext.refl rfl rfl rfl rfl _ (.inl rfl) (by conv => lhs; whnf) (by simp only [List.set_cons_succ, List.set_cons_zero]; rfl) ?_
        refine relPick Ext.refl rfl rfl rfl rfl _ _ _ rfl rfl (by conv => lhs; whnf) (by simp only [List.set_cons_succ, List.set_cons_zero]; rfl) ?_
        refine relMove Ext.refl rfl rfl rfl rfl _ (.inl rfl) (by conv => lhs; whnf) (by simp only [List.set_cons_succ, List.set_cons_zero]; rfl) ?_
        refine relPure Ext.refl rfl rfl rfl rfl (fun w _ => by go_simp; first | done | rfl) (by simp only [List.set_cons_succ, List.set_cons_zero]; rfl) ?_
        refine relPure Ext.refl rfl rfl rfl rfl (c := .agg (hcs gg.prev)) (fun w hw => exec_load_mid _ _ rfl G 1 rfl (gg.prev.map bv) _ (Av.hd_prev (ag.below hw.drew)) Tryd.underlying24 rfl (by rw [gp32.out]; kernel_rfl)) (by simp only [List.set_cons_succ, List.set_cons_zero]; rfl) ?_
        refine relPure Ext.refl rfl rfl rfl rfl (fun w _ => by go_simp; first | done | rfl) (by simp only [List.set_cons_succ, List.set_cons_zero]; rfl) ?_
        refine relPure Ext.refl rfl rfl rfl rfl (c := .agg (hcs x.prev)) (fun w hw => exec_load_mid _ _ rfl H 1 rfl (x.prev.map bv) _ (Av.hd_prev (ax.below hw.drew)) Tryd.underlying24 rfl (by rw [xp32.out]; kernel_rfl)) (by simp only [List.set_cons_succ, List.set_cons_zero]; rfl) ?_
        refine relBin Ext.refl rfl rfl rfl rfl _ _ _ _ _ rfl (by conv => lhs; whnf) (by conv => lhs; whnf) (c := .bool false) (fun w => NP2.out _ _ w) (by simp only [List.set_cons_succ, List.set_cons_zero]; rfl) ?_
        refine relMove Ext.refl rfl rfl rfl rfl _ (.inl rfl) (by conv => lhs; whnf) (by simp only [List.set_cons_succ, List.set_cons_zero]; rfl) ?_
        refine relPure Ext.refl rfl rfl rfl rfl (c := .bool true) (fun w _ => by have := hs2.out; go_simp; first | done | rfl | omega) (by simp only [List.set_cons_succ, List.set_cons_zero]; rfl) ?_
        refine relMove Ext.refl rfl rfl rfl rfl _ (.inl rfl) (by conv => lhs; whnf) (by simp only [List.set_cons_succ, List.set_cons_zero]; rfl) ?_
        refine relMove Ext.refl rfl rfl rfl rfl _ (.inl rfl) (by conv => lhs; whnf) (by simp only [List.set_cons_succ, List.set_cons_zero]; rfl) ?_
        refine relPure Ext.refl rfl rfl rfl rfl (c := .bool false) (fun w _ => by have := hs2.out; go_simp; first | done | rfl | omega) (by simp only [List.set_cons_succ, List.set_cons_zero]; rfl) ?_
        refine relPick Ext.refl rfl rfl rfl rfl _ _ _ rfl rfl (by conv => lhs; whnf) (by simp only [List.set_cons_succ, List.set_cons_zero]; rfl) ?_
        refine relPure Ext.refl rfl rfl rfl rfl (c := .bool true) (fun w _ => by go_simp; first | done | rfl) (by simp only [List.set_cons_succ, List.set_cons_zero]; rfl) ?_
        refine relPick Ext.refl rfl rfl rfl rfl _ _ _ rfl rfl (by conv => lhs; whnf) (by simp only [List.set_cons_succ, List.set_cons_zero]; rfl) ?_
        refine relMove Ext.refl rfl rfl rfl rfl _ (.inl rfl) (by conv => lhs; whnf) (by simp only [List.set_cons_succ, List.set_cons_zero]; rfl) ?_
        refine relPure Ext.refl rfl rfl rfl rfl (fun w _ => by go_simp; first | done | rfl) (by simp only [List.set_cons_succ, List.set_cons_zero]; rfl) ?_
        refine relPure Ext.refl rfl rfl rfl rfl (c := .int .u32 (u3 : Int)) (fun w hw => by have := (ag.below hw.drew).cell 65 _ g3; go_simp; first | done | rfl) (by simp only [List.set_cons_succ, List.set_cons_zero]; rfl) ?_
        refine relPure Ext.refl rfl rfl rfl rfl (fun w _ => by go_simp; first | done | rfl) (by simp only [List.set_cons_succ, List.set_cons_zero]; rfl) ?_
        refine relPure Ext.refl rfl rfl rfl rfl (c := .int .u32 (v3 : Int)) (fun w hw => by have := (ax.below hw.drew).cell 65 _ x3; go_simp; first | done | rfl) (by simp only [List.set_cons_succ, List.set_cons_zero]; rfl) ?_
        refine relPure Ext.refl rfl rfl rfl rfl (c := .bool true) (fun w _ => by have := s3.out; go_simp; first | done | rfl | omega) (by simp only [List.set_cons_succ, List.set_cons_zero]; rfl) ?_
        refine relMove Ext.refl rfl rfl rfl rfl _ (.inl rfl) (by conv => lhs; whnf) (by simp only [List.set_cons_succ, List.set_cons_zero]; rfl) ?_
        refine relPure Ext.refl rfl rfl rfl rfl (c := .bool true) (fun w _ => by have := hs2.out; go_simp; first | done | rfl | omega) (by simp only [List.set_cons_succ, List.set_cons_zero]; rfl) ?_
        refine relMove Ext.refl rfl rfl rfl rfl _ (.inl rfl) (by conv => lhs; whnf) (by simp only [List.set_cons_succ, List.set_cons_zero]; rfl) ?_
        refine relMove Ext.refl rfl rfl rfl rfl _ (.inl rfl) (by conv => lhs; whnf) (by simp only [List.set_cons_succ, List.set_cons_zero]; rfl) ?_
        refine relPure Ext.refl rfl rfl rfl rfl (c := .bool true) (fun w _ => by have := hs2.out; go_simp; first | done | rfl | omega) (by simp only [List.set_cons_succ, List.set_cons_zero]; rfl) ?_
        refine relPick Ext.refl rfl rfl rfl rfl _ _ _ rfl rfl (by conv => lhs; whnf) (by simp only [List.set_cons_succ, List.set_cons_zero]; rfl) ?_
        refine relPure Ext.refl rfl rfl rfl rfl (c := .bool true) (fun w _ => by go_simp; first | done | rfl) (by simp only [List.set_cons_succ, List.set_cons_zero]; rfl) ?_
        refine relPick Ext.refl rfl rfl rfl rfl _ _ _ rfl rfl (by conv => lhs; whnf) (by simp only [List.set_cons_succ, List.set_cons_zero]; rfl) ?_
        refine relMove Ext.refl rfl rfl rfl rfl _ (.inl rfl) (by conv => lhs; whnf) (by simp only [List.set_cons_succ, List.set_cons_zero]; rfl) ?_
        refine relPure Ext.refl rfl rfl rfl rfl (fun w _ => by go_simp; first | done | rfl) (by simp only [List.set_cons_succ, List.set_cons_zero]; rfl) ?_
        refine relPure Ext.refl rfl rfl rfl rfl (c := .int .u32 (u5 : Int)) (fun w hw => by have := (ag.below hw.drew).cell 67 _ g5; go_simp; first | done | rfl) (by simp only [List.set_cons_succ, List.set_cons_zero]; rfl) ?_
        refine relPure Ext.refl rfl rfl rfl rfl (fun w _ => by go_simp; first | done | rfl) (by simp only [List.set_cons_succ, List.set_cons_zero]; rfl) ?_
        refine relPure Ext.refl rfl rfl rfl rfl (c := .int .u32 (v5 : Int)) (fun w hw => by have := (ax.below hw.drew).cell 67 _ x5; go_simp; first | done | rfl) (by simp only [List.set_cons_succ, List.set_cons_zero]; rfl) ?_
        refine relPure Ext.refl rfl rfl rfl rfl (c := .bool false) (fun w _ => by have := s5.out; go_simp; first | done | rfl | omega) (by simp only [List.set_cons_succ, List.set_cons_zero]; rfl) ?_
        refine relMove Ext.refl rfl rfl rfl rfl _ (.inl rfl) (by conv => lhs; whnf) (by simp only [List.set_cons_succ, List.set_cons_zero]; rfl) ?_
        refine relPure Ext.refl rfl rfl rfl rfl (c := .bool false) (fun w _ => by have := hs2.out; go_simp; first | done | rfl | omega) (by simp only [List.set_cons_succ, List.set_cons_zero]; rfl) ?_
        refine relPure Ext.refl rfl rfl rfl rfl (c := .bool true) (fun w _ => by go_simp; first | done | rfl) (by simp only [List.set_cons_succ, List.set_cons_zero]; rfl) ?_
        refine relPick Ext.refl rfl rfl rfl rfl _ _ _ rfl rfl (by conv => lhs; whnf) (by simp only [List.set_cons_succ, List.set_cons_zero]; rfl) ?_
        refine relEnd fun w14 hw14 => fill_end ?_
        go_wp2
        go_ret
        exact ⟨rfl, bw11.trans (hw14.drew.mono bw11.size)⟩
      · have e0 : u0 = v0 := by have := f0.out; omega
        have e3 : u3 = v3 := by have := f3.out; omega
        have e5 : u5 = v5 := by have := f5.out; omega
        have ep : decide (¬ (4 ≤ i ∧ i < 36)) = true := by exact decide_eq_true (by omega)
        have NP2 := NP.out
        rw [ep] at NP2
        replace NP2 := Lib.hid NP2
        replace ep := Lib.hid ep
        have t0 : ((u0 : Int) == (v0 : Int)) = true := by simp; omega
        have t0n : ((u0 : Int) != (v0 : Int)) = false := by simp; omega
        have t4 : decide ((4 : Int) ≤ (i : Int)) = true := by simp; omega
        have t4b : decide ((i : Int) < 4) = false := by simp; omega
        have s0 := Lib.hid e0
        have s3 := Lib.hid e3
        have s5 := Lib.hid e5
        have hs2 := Lib.hid hs
        clear e0 e3 e5 hs
        go_upto_region 15 with fail
        clear t0 t0n
        refine wp_region_relT 82 [] Ext (by kernel_rfl) (by kernel_rfl) (by kernel_rfl) (by kernel_rfl) (by kernel_rfl) Ext.refl Ext.trans (by intro p hp; cases hp) ?_
        refine relMove Ext.refl rfl rfl rfl rfl _ (.inl rfl) (by conv => lhs; whnf) (by simp only [List.set_cons_succ, List.set_cons_zero]; rfl) ?_
        refine relMove Ext.refl rfl rfl rfl rfl _ (.inl rfl) (by conv => lhs; whnf) (by simp only [List.set_cons_succ, List.set_cons_zero]; rfl) ?_
        refine relMove Ext.refl rfl rfl rfl rfl _ (.inl rfl) (by conv => lhs; whnf) (by simp only [List.set_cons_succ, List.set_cons_zero]; rfl) ?_
        refine relPure Ext.refl rfl rfl rfl rfl (fun w _ => by go_simp; first | done | rfl) (by simp only [List.set_cons_succ, List.set_cons_zero]; rfl) ?_
        refine relPure Ext.refl rfl rfl rfl rfl (c := .int .u32 (v4 : Int)) (fun w hw => by have := (ax.below hw.drew).cell 66 _ x4; go_simp; first | done | rfl) (by simp only [List.set_cons_succ, List.set_cons_zero]; rfl) ?_
        refine relPure Ext.refl rfl rfl rfl rfl (c := .bool true) (fun w _ => by go_simp; first | done | rfl) (by simp only [List.set_cons_succ, List.set_cons_zero]; rfl) ?_
        refine relPick Ext.refl rfl rfl rfl rfl _ _ _ rfl rfl (by conv => lhs; whnf) (by simp only [List.set_cons_succ, List.set_cons_zero]; rfl) ?_
        refine relMove Ext.refl rfl rfl rfl rfl _ (.inl rfl) (by conv => lhs; whnf) (by simp only [List.set_cons_succ, List.set_cons_zero]; rfl) ?_
        refine relMove Ext.refl rfl rfl rfl rfl _ (.inl rfl) (by conv => lhs; whnf) (by simp only [List.set_cons_succ, List.set_cons_zero]; rfl) ?_
        refine relPure Ext.refl rfl rfl rfl rfl (c := .slice (subA (some ⟨bb, off, none⟩) 80 4 1) 32 76) (fun w _ => by go_simp; first | done | rfl) (by simp only [List.set_cons_succ, List.set_cons_zero]; rfl) ?_
        refine relStr rfl rfl rfl rfl _ rfl (by conv => lhs; whnf) x.prev k.2.1 (fun w hw => by have := (((rx.below hw.drew).sub 80 4 1 (by rw [List.length_map, hV80.out]; exact Nat.le_refl _)).take 32); rw [Nat.mul_one, ← List.map_drop, ← List.map_take, hprev.out] at this; exact this) (by simp only [List.set_cons_succ, List.set_cons_zero]; rfl) ?_
        refine relPure Ext.refl rfl rfl rfl rfl (fun w _ => by go_simp; first | done | rfl) (by simp only [List.set_cons_succ, List.set_cons_zero]; rfl) ?_
        refine relPure Ext.refl rfl rfl rfl rfl (c := .slice (some ⟨H, 1, none⟩) 32 32) (fun w _ => by go_simp; first | done | rfl) (by simp only [List.set_cons_succ, List.set_cons_zero]; rfl) ?_
        refine relStr rfl rfl rfl rfl _ rfl (by conv => lhs; whnf) x.prev k.2.1 (fun w hw => rd_of_range (Av.hd_prev (ax.below hw.drew))) (by simp only [List.set_cons_succ, List.set_cons_zero]; rfl) ?_
        refine relBin Ext.refl rfl rfl rfl rfl _ _ _ _ _ rfl (by conv => lhs; whnf) (by conv => lhs; whnf) (c := .bool true) (fun w => by go_simp) (by simp only [List.set_cons_succ, List.set_cons_zero]; rfl) ?_
        refine relPick Ext.refl rfl rfl rfl rfl _ _ _ rfl rfl (by conv => lhs; whnf) (by simp only [List.set_cons_succ, List.set_cons_zero]; rfl) ?_
        refine relMove Ext.refl rfl rfl rfl rfl _ (.inl rfl) (by conv => lhs; whnf) (by simp only [List.set_cons_succ, List.set_cons_zero]; rfl) ?_
        refine relMove Ext.refl rfl rfl rfl rfl _ (.inl rfl) (by conv => lhs; whnf) (by simp only [List.set_cons_succ, List.set_cons_zero]; rfl) ?_
        refine relPure Ext.refl rfl rfl rfl rfl (c := .slice (subA (some ⟨bb, off, none⟩) 80 36 1) 32 44) (fun w _ => by go_simp; first | done | rfl) (by simp only [List.set_cons_succ, List.set_cons_zero]; rfl) ?_
        refine relStr rfl rfl rfl rfl _ rfl (by conv => lhs; whnf) x.root k.2.2.1 (fun w hw => by have := (((rx.below hw.drew).sub 80 36 1 (by rw [List.length_map, hV80.out]; exact Nat.le_refl _)).take 32); rw [Nat.mul_one, ← List.map_drop, ← List.map_take, hroot.out] at this; exact this) (by simp only [List.set_cons_succ, List.set_cons_zero]; rfl) ?_
        refine relPure Ext.refl rfl rfl rfl rfl (fun w _ => by go_simp; first | done | rfl) (by simp only [List.set_cons_succ, List.set_cons_zero]; rfl) ?_
        refine relPure Ext.refl rfl rfl rfl rfl (c := .slice (some ⟨H, 33, none⟩) 32 32) (fun w _ => by go_simp; first | done | rfl) (by simp only [List.set_cons_succ, List.set_cons_zero]; rfl) ?_
        refine relStr rfl rfl rfl rfl _ rfl (by conv => lhs; whnf) x.root k.2.2.1 (fun w hw => rd_of_range (Av.hd_root k (ax.below hw.drew))) (by simp only [List.set_cons_succ, List.set_cons_zero]; rfl) ?_
        refine relBin Ext.refl rfl rfl rfl rfl _ _ _ _ _ rfl (by conv => lhs; whnf) (by conv => lhs; whnf) (c := .bool true) (fun w => by go_simp) (by simp only [List.set_cons_succ, List.set_cons_zero]; rfl) ?_
        refine relPick Ext.refl rfl rfl rfl rfl _ _ _ rfl rfl (by conv => lhs; whnf) (by simp only [List.set_cons_succ, List.set_cons_zero]; rfl) ?_
        refine relMove Ext.refl rfl rfl rfl rfl _ (.inl rfl) (by conv => lhs; whnf) (by simp only [List.set_cons_succ, List.set_cons_zero]; rfl) ?_
        refine relPure Ext.refl rfl rfl rfl rfl (c := .agg (hdc x).toArray) (fun w hw => exec_loadAv (ax.below hw.drew) _ _ rfl rfl _ 68 x68.out Tryd.underlying26 rfl (by kernel_rfl)) (by simp only [List.set_cons_succ, List.set_cons_zero]; rfl) ?_
        refine relCall1 rfl rfl rfl rfl (c := .agg (hcs dd)) 12 #[.agg (hdc x).toArray] (fun w => by go_simp) (fun w hw => (HId.out w (ht.below (bw11.trans (hw.drew.mono bw11.size)))).mono ?_) (by simp only [List.set_cons_succ, List.set_cons_zero]; rfl) ?_
        · rintro e w' ⟨rfl, hb⟩
          exact ⟨rfl, hb⟩
        refine relMove Ext.refl rfl rfl rfl rfl _ (.inl rfl) (by conv => lhs; whnf) (by simp only [List.set_cons_succ, List.set_cons_zero]; rfl) ?_
        refine relCall1 rfl rfl rfl rfl (c := .agg (hcs dd)) 16 #[.slice (some ⟨bb, off, none⟩) 80 80] (fun w => by go_simp) (fun w hw => (HD.out _ w (rx.below hw.drew) (ht.below (bw11.trans (hw.drew.mono bw11.size)))).mono ?_) (by simp only [List.set_cons_succ, List.set_cons_zero]; rfl) ?_
        · rintro e w' ⟨rfl, hb⟩
          exact ⟨rfl, hb⟩
        refine relBin Ext.refl rfl rfl rfl rfl _ _ _ _ _ rfl (by conv => lhs; whnf) (by conv => lhs; whnf) (c := .bool true) (fun w => ND.out _ _ w) (by simp only [List.set_cons_succ, List.set_cons_zero]; rfl) ?_
        refine relPick Ext.refl rfl rfl rfl rfl _ _ _ rfl rfl (by conv => lhs; whnf) (by simp only [List.set_cons_succ, List.set_cons_zero]; rfl) ?_
        refine relMove Ext.refl rfl rfl rfl rfl _ (.inl rfl) (by conv => lhs; whnf) (by simp only [List.set_cons_succ, List.set_cons_zero]; rfl) ?_
        refine relMove Ext.refl rfl rfl rfl rfl _ (.inl rfl) (by conv => lhs; whnf) (by simp only [List.set_cons_succ, List.set_cons_zero]; rfl) ?_
        refine relPure Ext.refl rfl rfl rfl rfl (c := .bool true) (fun w _ => by go_simp; first | done | rfl) (by simp only [List.set_cons_succ, List.set_cons_zero]; rfl) ?_
        refine relPick Ext.refl rfl rfl rfl rfl _ _ _ rfl rfl (by conv => lhs; whnf) (by simp only [List.set_cons_succ, List.set_cons_zero]; rfl) ?_
        refine relMove Ext.refl rfl rfl rfl rfl _ (.inl rfl) (by conv => lhs; whnf) (by simp only [List.set_cons_succ, List.set_cons_zero]; rfl) ?_
        refine relPure Ext.refl rfl rfl rfl rfl (c := .agg (hdc gg).toArray) (fun w hw => exec_loadAv (ag.below hw.drew) _ _ rfl rfl _ 68 g68.out Tryd.underlying26 rfl (by kernel_rfl)) (by simp only [List.set_cons_succ, List.set_cons_zero]; rfl) ?_
        refine relPure Ext.refl rfl rfl rfl rfl (c := .agg (hdc x).toArray) (fun w hw => exec_loadAv (ax.below hw.drew) _ _ rfl rfl _ 68 x68.out Tryd.underlying26 rfl (by kernel_rfl)) (by simp only [List.set_cons_succ, List.set_cons_zero]; rfl) ?_
        refine relBin Ext.refl rfl rfl rfl rfl _ _ _ _ _ rfl (by conv => lhs; whnf) (by conv => lhs; whnf) (c := .bool true) (fun w => NH.out _ _ w) (by simp only [List.set_cons_succ, List.set_cons_zero]; rfl) ?_
        refine relPick Ext.refl rfl rfl rfl rfl _ _ _ rfl rfl (by conv => lhs; whnf) (by simp only [List.set_cons_succ, List.set_cons_zero]; rfl) ?_
        refine relMove Ext.refl rfl rfl rfl rfl _ (.inl rfl) (by conv => lhs; whnf) (by simp only [List.set_cons_succ, List.set_cons_zero]; rfl) ?_
        refine relMove Ext.refl rfl rfl rfl rfl _ (.inl rfl) (by conv => lhs; whnf) (by simp only [List.set_cons_succ, List.set_cons_zero]; rfl) ?_
        refine relPick Ext.refl rfl rfl rfl rfl _ _ _ rfl rfl (by conv => lhs; whnf) (by simp only [List.set_cons_succ, List.set_cons_zero]; rfl) ?_
        refine relMove Ext.refl rfl rfl rfl rfl _ (.inl rfl) (by conv => lhs; whnf) (by simp only [List.set_cons_succ, List.set_cons_zero]; rfl) ?_
        refine relPure Ext.refl rfl rfl rfl rfl (fun w _ => by go_simp; first | done | rfl) (by simp only [List.set_cons_succ, List.set_cons_zero]; rfl) ?_
        refine relPure Ext.refl rfl rfl rfl rfl (c := .agg (hcs gg.prev)) (fun w hw => exec_load_mid _ _ rfl G 1 rfl (gg.prev.map bv) _ (Av.hd_prev (ag.below hw.drew)) Tryd.underlying24 rfl (by rw [gp32.out]; kernel_rfl)) (by simp only [List.set_cons_succ, List.set_cons_zero]; rfl) ?_
        refine relPure Ext.refl rfl rfl rfl rfl (fun w _ => by go_simp; first | done | rfl) (by simp only [List.set_cons_succ, List.set_cons_zero]; rfl) ?_
        refine relPure Ext.refl rfl rfl rfl rfl (c := .agg (hcs x.prev)) (fun w hw => exec_load_mid _ _ rfl H 1 rfl (x.prev.map bv) _ (Av.hd_prev (ax.below hw.drew)) Tryd.underlying24 rfl (by rw [xp32.out]; kernel_rfl)) (by simp only [List.set_cons_succ, List.set_cons_zero]; rfl) ?_
        refine relBin Ext.refl rfl rfl rfl rfl _ _ _ _ _ rfl (by conv => lhs; whnf) (by conv => lhs; whnf) (c := .bool false) (fun w => NP2.out _ _ w) (by simp only [List.set_cons_succ, List.set_cons_zero]; rfl) ?_
        refine relMove Ext.refl rfl rfl rfl rfl _ (.inl rfl) (by conv => lhs; whnf) (by simp only [List.set_cons_succ, List.set_cons_zero]; rfl) ?_
        refine relPure Ext.refl rfl rfl rfl rfl (c := .bool true) (fun w _ => by have := hs2.out; go_simp; first | done | rfl | omega) (by simp only [List.set_cons_succ, List.set_cons_zero]; rfl) ?_
        refine relMove Ext.refl rfl rfl rfl rfl _ (.inl rfl) (by conv => lhs; whnf) (by simp only [List.set_cons_succ, List.set_cons_zero]; rfl) ?_
        refine relMove Ext.refl rfl rfl rfl rfl _ (.inl rfl) (by conv => lhs; whnf) (by simp only [List.set_cons_succ, List.set_cons_zero]; rfl) ?_
        refine relPure Ext.refl rfl rfl rfl rfl (c := .bool false) (fun w _ => by have := hs2.out; go_simp; first | done | rfl | omega) (by simp only [List.set_cons_succ, List.set_cons_zero]; rfl) ?_
        refine relPick Ext.refl rfl rfl rfl rfl _ _ _ rfl rfl (by conv => lhs; whnf) (by simp only [List.set_cons_succ, List.set_cons_zero]; rfl) ?_
        refine relPure Ext.refl rfl rfl rfl rfl (c := .bool true) (fun w _ => by go_simp; first | done | rfl) (by simp only [List.set_cons_succ, List.set_cons_zero]; rfl) ?_
        refine relPick Ext.refl rfl rfl rfl rfl _ _ _ rfl rfl (by conv => lhs; whnf) (by simp only [List.set_cons_succ, List.set_cons_zero]; rfl) ?_
        refine relMove Ext.refl rfl rfl rfl rfl _ (.inl rfl) (by conv => lhs; whnf) (by simp only [List.set_cons_succ, List.set_cons_zero]; rfl) ?_
        refine relPure Ext.refl rfl rfl rfl rfl (fun w _ => by go_simp; first | done | rfl) (by simp only [List.set_cons_succ, List.set_cons_zero]; rfl) ?_
        refine relPure Ext.refl rfl rfl rfl rfl (c := .int .u32 (u3 : Int)) (fun w hw => by have := (ag.below hw.drew).cell 65 _ g3; go_simp; first | done | rfl) (by simp only [List.set_cons_succ, List.set_cons_zero]; rfl) ?_
        refine relPure Ext.refl rfl rfl rfl rfl (fun w _ => by go_simp; first | done | rfl) (by simp only [List.set_cons_succ, List.set_cons_zero]; rfl) ?_
        refine relPure Ext.refl rfl rfl rfl rfl (c := .int .u32 (v3 : Int)) (fun w hw => by have := (ax.below hw.drew).cell 65 _ x3; go_simp; first | done | rfl) (by simp only [List.set_cons_succ, List.set_cons_zero]; rfl) ?_
        refine relPure Ext.refl rfl rfl rfl rfl (c := .bool false) (fun w _ => by have := s3.out; go_simp; first | done | rfl | omega) (by simp only [List.set_cons_succ, List.set_cons_zero]; rfl) ?_
        refine relMove Ext.refl rfl rfl rfl rfl _ (.inl rfl) (by conv => lhs; whnf) (by simp only [List.set_cons_succ, List.set_cons_zero]; rfl) ?_
        refine relPure Ext.refl rfl rfl rfl rfl (c := .bool true) (fun w _ => by have := hs2.out; go_simp; first | done | rfl | omega) (by simp only [List.set_cons_succ, List.set_cons_zero]; rfl) ?_
        refine relMove Ext.refl rfl rfl rfl rfl _ (.inl rfl) (by conv => lhs; whnf) (by simp only [List.set_cons_succ, List.set_cons_zero]; rfl) ?_
        refine relMove Ext.refl rfl rfl rfl rfl _ (.inl rfl) (by conv => lhs; whnf) (by simp only [List.set_cons_succ, List.set_cons_zero]; rfl) ?_
        refine relPure Ext.refl rfl rfl rfl rfl (c := .bool false) (fun w _ => by have := hs2.out; go_simp; first | done | rfl | omega) (by simp only [List.set_cons_succ, List.set_cons_zero]; rfl) ?_
        refine relPick Ext.refl rfl rfl rfl rfl _ _ _ rfl rfl (by conv => lhs; whnf) (by simp only [List.set_cons_succ, List.set_cons_zero]; rfl) ?_
        refine relPure Ext.refl rfl rfl rfl rfl (c := .bool true) (fun w _ => by go_simp; first | done | rfl) (by simp only [List.set_cons_succ, List.set_cons_zero]; rfl) ?_
        refine relPick Ext.refl rfl rfl rfl rfl _ _ _ rfl rfl (by conv => lhs; whnf) (by simp only [List.set_cons_succ, List.set_cons_zero]; rfl) ?_
        refine relMove Ext.refl rfl rfl rfl rfl _ (.inl rfl) (by conv => lhs; whnf) (by simp only [List.set_cons_succ, List.set_cons_zero]; rfl) ?_
        refine relPure Ext.refl rfl rfl rfl rfl (fun w _ => by go_simp; first | done | rfl) (by simp only [List.set_cons_succ, List.set_cons_zero]; rfl) ?_
        refine relPure Ext.refl rfl rfl rfl rfl (c := .int .u32 (u5 : Int)) (fun w hw => by have := (ag.below hw.drew).cell 67 _ g5; go_simp; first | done | rfl) (by simp only [List.set_cons_succ, List.set_cons_zero]; rfl) ?_
        refine relPure Ext.refl rfl rfl rfl rfl (fun w _ => by go_simp; first | done | rfl) (by simp only [List.set_cons_succ, List.set_cons_zero]; rfl) ?_
        refine relPure Ext.refl rfl rfl rfl rfl (c := .int .u32 (v5 : Int)) (fun w hw => by have := (ax.below hw.drew).cell 67 _ x5; go_simp; first | done | rfl) (by simp only [List.set_cons_succ, List.set_cons_zero]; rfl) ?_
        refine relPure Ext.refl rfl rfl rfl rfl (c := .bool false) (fun w _ => by have := s5.out; go_simp; first | done | rfl | omega) (by simp only [List.set_cons_succ, List.set_cons_zero]; rfl) ?_
        refine relMove Ext.refl rfl rfl rfl rfl _ (.inl rfl) (by conv => lhs; whnf) (by simp only [List.set_cons_succ, List.set_cons_zero]; rfl) ?_
        refine relPure Ext.refl rfl rfl rfl rfl (c := .bool false) (fun w _ => by have := hs2.out; go_simp; first | done | rfl | omega) (by simp only [List.set_cons_succ, List.set_cons_zero]; rfl) ?_
        refine relPure Ext.refl rfl rfl rfl rfl (c := .bool true) (fun w _ => by go_simp; first | done | rfl) (by simp only [List.set_cons_succ, List.set_cons_zero]; rfl) ?_
        refine relPick Ext.refl rfl rfl rfl rfl _ _ _ rfl rfl (by conv => lhs; whnf) (by simp only [List.set_cons_succ, List.set_cons_zero]; rfl) ?_
        refine relEnd fun w14 hw14 => fill_end ?_
        go_wp2
        go_ret
        exact ⟨rfl, bw11.trans (hw14.drew.mono bw11.size)⟩
      · have e0 : u0 = v0 := by have := f0.out; omega
        have e3 : u3 = v3 := by have := f3.out; omega
        have e5 : ¬ u5 = v5 := by have := f5.out; omega
        have ep : decide (¬ (4 ≤ i ∧ i < 36)) = true := by exact decide_eq_true (by omega)
        have NP2 := NP.out
        rw [ep] at NP2
        replace NP2 := Lib.hid NP2
        replace ep := Lib.hid ep
        have t0 : ((u0 : Int) == (v0 : Int)) = true := by simp; omega
        have t0n : ((u0 : Int) != (v0 : Int)) = false := by simp; omega
        have t4 : decide ((4 : Int) ≤ (i : Int)) = true := by simp; omega
        have t4b : decide ((i : Int) < 4) = false := by simp; omega
        have s0 := Lib.hid e0
        have s3 := Lib.hid e3
        have s5 := Lib.hid e5
        have hs2 := Lib.hid hs
        clear e0 e3 e5 hs
        go_upto_region 15 with fail
        clear t0 t0n
        refine wp_region_relT 82 [] Ext (by kernel_rfl) (by kernel_rfl) (by kernel_rfl) (by kernel_rfl) (by kernel_rfl) Ext.refl Ext.trans (by intro p hp; cases hp) ?_
        refine relMove Ext.refl rfl rfl rfl rfl _ (.inl rfl) (by conv => lhs; whnf) (by simp only [List.set_cons_succ, List.set_cons_zero]; rfl) ?_
        refine relMove Ext.refl rfl rfl rfl rfl _ (.inl rfl) (by conv => lhs; whnf) (by simp only [List.set_cons_succ, List.set_cons_zero]; rfl) ?_
        refine relMove Ext.refl rfl rfl rfl rfl _ (.inl rfl) (by conv => lhs; whnf) (by simp only [List.set_cons_succ, List.set_cons_zero]; rfl) ?_
        refine relPure Ext.refl rfl rfl rfl rfl (fun w _ => by go_simp; first | done | rfl) (by simp only [List.set_cons_succ, List.set_cons_zero]; rfl) ?_
        refine relPure Ext.refl rfl rfl rfl rfl (c := .int .u32 (v4 : Int)) (fun w hw => by have := (ax.below hw.drew).cell 66 _ x4; go_simp; first | done | rfl) (by simp only [List.set_cons_succ, List.set_cons_zero]; rfl) ?_
        refine relPure Ext.refl rfl rfl rfl rfl (c := .bool true) (fun w _ => by go_simp; first | done | rfl) (by simp only [List.set_cons_succ, List.set_cons_zero]; rfl) ?_
        refine relPick Ext.refl rfl rfl rfl rfl _ _ _ rfl rfl (by conv => lhs; whnf) (by simp only [List.set_cons_succ, List.set_cons_zero]; rfl) ?_
        refine relMove Ext.refl rfl rfl rfl rfl _ (.inl rfl) (by conv => lhs; whnf) (by simp only [List.set_cons_succ, List.set_cons_zero]; rfl) ?_
        refine relMove Ext.refl rfl rfl rfl rfl _ (.inl rfl) (by conv => lhs; whnf) (by simp only [List.set_cons_succ, List.set_cons_zero]; rfl) ?_
        refine relPure Ext.refl rfl rfl rfl rfl (c := .slice (subA (some ⟨bb, off, none⟩) 80 4 1) 32 76) (fun w _ => by go_simp; first | done | rfl) (by simp only [List.set_cons_succ, List.set_cons_zero]; rfl) ?_
        refine relStr rfl rfl rfl rfl _ rfl (by conv => lhs; whnf) x.prev k.2.1 (fun w hw => by have := (((rx.below hw.drew).sub 80 4 1 (by rw [List.length_map, hV80.out]; exact Nat.le_refl _)).take 32); rw [Nat.mul_one, ← List.map_drop, ← List.map_take, hprev.out] at this; exact this) (by simp only [List.set_cons_succ, List.set_cons_zero]; rfl) ?_
        refine relPure Ext.refl rfl rfl rfl rfl (fun w _ => by go_simp; first | done | rfl) (by simp only [List.set_cons_succ, List.set_cons_zero]; rfl) ?_
        refine relPure Ext.refl rfl rfl rfl rfl (c := .slice (some ⟨H, 1, none⟩) 32 32) (fun w _ => by go_simp; first | done | rfl) (by simp only [List.set_cons_succ, List.set_cons_zero]; rfl) ?_
        refine relStr rfl rfl rfl rfl _ rfl (by conv => lhs; whnf) x.prev k.2.1 (fun w hw => rd_of_range (Av.hd_prev (ax.below hw.drew))) (by simp only [List.set_cons_succ, List.set_cons_zero]; rfl) ?_
        refine relBin Ext.refl rfl rfl rfl rfl _ _ _ _ _ rfl (by conv => lhs; whnf) (by conv => lhs; whnf) (c := .bool true) (fun w => by go_simp) (by simp only [List.set_cons_succ, List.set_cons_zero]; rfl) ?_
        refine relPick Ext.refl rfl rfl rfl rfl _ _ _ rfl rfl (by conv => lhs; whnf) (by simp only [List.set_cons_succ, List.set_cons_zero]; rfl) ?_
        refine relMove Ext.refl rfl rfl rfl rfl _ (.inl rfl) (by conv => lhs; whnf) (by simp only [List.set_cons_succ, List.set_cons_zero]; rfl) ?_
        refine relMove Ext.refl rfl rfl rfl rfl _ (.inl rfl) (by conv => lhs; whnf) (by simp only [List.set_cons_succ, List.set_cons_zero]; rfl) ?_
        refine relPure Ext.refl rfl rfl rfl rfl (c := .slice (subA (some ⟨bb, off, none⟩) 80 36 1) 32 44) (fun w _ => by go_simp; first | done | rfl) (by simp only [List.set_cons_succ, List.set_cons_zero]; rfl) ?_
        refine relStr rfl rfl rfl rfl _ rfl (by conv => lhs; whnf) x.root k.2.2.1 (fun w hw => by have := (((rx.below hw.drew).sub 80 36 1 (by rw [List.length_map, hV80.out]; exact Nat.le_refl _)).take 32); rw [Nat.mul_one, ← List.map_drop, ← List.map_take, hroot.out] at this; exact this) (by simp only [List.set_cons_succ, List.set_cons_zero]; rfl) ?_
        refine relPure Ext.refl rfl rfl rfl rfl (fun w _ => by go_simp; first | done | rfl) (by simp only [List.set_cons_succ, List.set_cons_zero]; rfl) ?_
        refine relPure Ext.refl rfl rfl rfl rfl (c := .slice (some ⟨H, 33, none⟩) 32 32) (fun w _ => by go_simp; first | done | rfl) (by simp only [List.set_cons_succ, List.set_cons_zero]; rfl) ?_
        refine relStr rfl rfl rfl rfl _ rfl (by conv => lhs; whnf) x.root k.2.2.1 (fun w hw => rd_of_range (Av.hd_root k (ax.below hw.drew))) (by simp only [List.set_cons_succ, List.set_cons_zero]; rfl) ?_
        refine relBin Ext.refl rfl rfl rfl rfl _ _ _ _ _ rfl (by conv => lhs; whnf) (by conv => lhs; whnf) (c := .bool true) (fun w => by go_simp) (by simp only [List.set_cons_succ, List.set_cons_zero]; rfl) ?_
        refine relPick Ext.refl rfl rfl rfl rfl _ _ _ rfl rfl (by conv => lhs; whnf) (by simp only [List.set_cons_succ, List.set_cons_zero]; rfl) ?_
        refine relMove Ext.refl rfl rfl rfl rfl _ (.inl rfl) (by conv => lhs; whnf) (by simp only [List.set_cons_succ, List.set_cons_zero]; rfl) ?_
        refine relPure Ext.refl rfl rfl rfl rfl (c := .agg (hdc x).toArray) (fun w hw => exec_loadAv (ax.below hw.drew) _ _ rfl rfl _ 68 x68.out Tryd.underlying26 rfl (by kernel_rfl)) (by simp only [List.set_cons_succ, List.set_cons_zero]; rfl) ?_
        refine relCall1 rfl rfl rfl rfl (c := .agg (hcs dd)) 12 #[.agg (hdc x).toArray] (fun w => by go_simp) (fun w hw => (HId.out w (ht.below (bw11.trans (hw.drew.mono bw11.size)))).mono ?_) (by simp only [List.set_cons_succ, List.set_cons_zero]; rfl) ?_
        · rintro e w' ⟨rfl, hb⟩
          exact ⟨rfl, hb⟩
        refine relMove Ext.refl rfl rfl rfl rfl _ (.inl rfl) (by conv => lhs; whnf) (by simp only [List.set_cons_succ, List.set_cons_zero]; rfl) ?_
        refine relCall1 rfl rfl rfl rfl (c := .agg (hcs dd)) 16 #[.slice (some ⟨bb, off, none⟩) 80 80] (fun w => by go_simp) (fun w hw => (HD.out _ w (rx.below hw.drew) (ht.below (bw11.trans (hw.drew.mono bw11.size)))).mono ?_) (by simp only [List.set_cons_succ, List.set_cons_zero]; rfl) ?_
        · rintro e w' ⟨rfl, hb⟩
          exact ⟨rfl, hb⟩
        refine relBin Ext.refl rfl rfl rfl rfl _ _ _ _ _ rfl (by conv => lhs; whnf) (by conv => lhs; whnf) (c := .bool true) (fun w => ND.out _ _ w) (by simp only [List.set_cons_succ, List.set_cons_zero]; rfl) ?_
        refine relPick Ext.refl rfl rfl rfl rfl _ _ _ rfl rfl (by conv => lhs; whnf) (by simp only [List.set_cons_succ, List.set_cons_zero]; rfl) ?_
        refine relMove Ext.refl rfl rfl rfl rfl _ (.inl rfl) (by conv => lhs; whnf) (by simp only [List.set_cons_succ, List.set_cons_zero]; rfl) ?_
        refine relMove Ext.refl rfl rfl rfl rfl _ (.inl rfl) (by conv => lhs; whnf) (by simp only [List.set_cons_succ, List.set_cons_zero]; rfl) ?_
        refine relPure Ext.refl rfl rfl rfl rfl (c := .bool true) (fun w _ => by go_simp; first | done | rfl) (by simp only [List.set_cons_succ, List.set_cons_zero]; rfl) ?_
        refine relPick Ext.refl rfl rfl rfl rfl _ _ _ rfl rfl (by conv => lhs; whnf) (by simp only [List.set_cons_succ, List.set_cons_zero]; rfl) ?_
        refine relMove Ext.refl rfl rfl rfl rfl _ (.inl rfl) (by conv => lhs; whnf) (by simp only [List.set_cons_succ, List.set_cons_zero]; rfl) ?_
        refine relPure Ext.refl rfl rfl rfl rfl (c := .agg (hdc gg).toArray) (fun w hw => exec_loadAv (ag.below hw.drew) _ _ rfl rfl _ 68 g68.out Tryd.underlying26 rfl (by kernel_rfl)) (by simp only [List.set_cons_succ, List.set_cons_zero]; rfl) ?_
        refine relPure Ext.refl rfl rfl rfl rfl (c := .agg (hdc x).toArray) (fun w hw => exec_loadAv (ax.below hw.drew) _ _ rfl rfl _ 68 x68.out Tryd.underlying26 rfl (by kernel_rfl)) (by simp only [List.set_cons_succ, List.set_cons_zero]; rfl) ?_
        refine relBin Ext.refl rfl rfl rfl rfl _ _ _ _ _ rfl (by conv => lhs; whnf) (by conv => lhs; whnf) (c := .bool true) (fun w => NH.out _ _ w) (by simp only [List.set_cons_succ, List.set_cons_zero]; rfl) ?_
        refine relPick Ext.refl rfl rfl rfl rfl _ _ _ rfl rfl (by conv => lhs; whnf) (by simp only [List.set_cons_succ, List.set_cons_zero]; rfl) ?_
        refine relMove Ext.refl rfl rfl rfl rfl _ (.inl rfl) (by conv => lhs; whnf) (by simp only [List.set_cons_succ, List.set_cons_zero]; rfl) ?_
        refine relMove Ext.refl rfl rfl rfl rfl _ (.inl rfl) (by conv => lhs; whnf) (by simp only [List.set_cons_succ, List.set_cons_zero]; rfl) ?_
        refine relPick Ext.refl rfl rfl rfl rfl _ _ _ rfl rfl (by conv => lhs; whnf) (by simp only [List.set_cons_succ, List.set_cons_zero]; rfl) ?_
        refine relMove Ext.refl rfl rfl rfl rfl _ (.inl rfl) (by conv => lhs; whnf) (by simp only [List.set_cons_succ, List.set_cons_zero]; rfl) ?_
        refine relPure Ext.refl rfl rfl rfl rfl (fun w _ => by go_simp; first | done | rfl) (by simp only [List.set_cons_succ, List.set_cons_zero]; rfl) ?_
        refine relPure Ext.refl rfl rfl rfl rfl (c := .agg (hcs gg.prev)) (fun w hw => exec_load_mid _ _ rfl G 1 rfl (gg.prev.map bv) _ (Av.hd_prev (ag.below hw.drew)) Tryd.underlying24 rfl (by rw [gp32.out]; kernel_rfl)) (by simp only [List.set_cons_succ, List.set_cons_zero]; rfl) ?_
        refine relPure Ext.refl rfl rfl rfl rfl (fun w _ => by go_simp; first | done | rfl) (by simp only [List.set_cons_succ, List.set_cons_zero]; rfl) ?_
        refine relPure Ext.refl rfl rfl rfl rfl (c := .agg (hcs x.prev)) (fun w hw => exec_load_mid _ _ rfl H 1 rfl (x.prev.map bv) _ (Av.hd_prev (ax.below hw.drew)) Tryd.underlying24 rfl (by rw [xp32.out]; kernel_rfl)) (by simp only [List.set_cons_succ, List.set_cons_zero]; rfl) ?_
        refine relBin Ext.refl rfl rfl rfl rfl _ _ _ _ _ rfl (by conv => lhs; whnf) (by conv => lhs; whnf) (c := .bool false) (fun w => NP2.out _ _ w) (by simp only [List.set_cons_succ, List.set_cons_zero]; rfl) ?_
        refine relMove Ext.refl rfl rfl rfl rfl _ (.inl rfl) (by conv => lhs; whnf) (by simp only [List.set_cons_succ, List.set_cons_zero]; rfl) ?_
        refine relPure Ext.refl rfl rfl rfl rfl (c := .bool true) (fun w _ => by have := hs2.out; go_simp; first | done | rfl | omega) (by simp only [List.set_cons_succ, List.set_cons_zero]; rfl) ?_
        refine relMove Ext.refl rfl rfl rfl rfl _ (.inl rfl) (by conv => lhs; whnf) (by simp only [List.set_cons_succ, List.set_cons_zero]; rfl) ?_
        refine relMove Ext.refl rfl rfl rfl rfl _ (.inl rfl) (by conv => lhs; whnf) (by simp only [List.set_cons_succ, List.set_cons_zero]; rfl) ?_
        refine relPure Ext.refl rfl rfl rfl rfl (c := .bool false) (fun w _ => by have := hs2.out; go_simp; first | done | rfl | omega) (by simp only [List.set_cons_succ, List.set_cons_zero]; rfl) ?_
        refine relPick Ext.refl rfl rfl rfl rfl _ _ _ rfl rfl (by conv => lhs; whnf) (by simp only [List.set_cons_succ, List.set_cons_zero]; rfl) ?_
        refine relPure Ext.refl rfl rfl rfl rfl (c := .bool true) (fun w _ => by go_simp; first | done | rfl) (by simp only [List.set_cons_succ, List.set_cons_zero]; rfl) ?_
        refine relPick Ext.refl rfl rfl rfl rfl _ _ _ rfl rfl (by conv => lhs; whnf) (by simp only [List.set_cons_succ, List.set_cons_zero]; rfl) ?_
        refine relMove Ext.refl rfl rfl rfl rfl _ (.inl rfl) (by conv => lhs; whnf) (by simp only [List.set_cons_succ, List.set_cons_zero]; rfl) ?_
        refine relPure Ext.refl rfl rfl rfl rfl (fun w _ => by go_simp; first | done | rfl) (by simp only [List.set_cons_succ, List.set_cons_zero]; rfl) ?_
        refine relPure Ext.refl rfl rfl rfl rfl (c := .int .u32 (u3 : Int)) (fun w hw => by have := (ag.below hw.drew).cell 65 _ g3; go_simp; first | done | rfl) (by simp only [List.set_cons_succ, List.set_cons_zero]; rfl) ?_
        refine relPure Ext.refl rfl rfl rfl rfl (fun w _ => by go_simp; first | done | rfl) (by simp only [List.set_cons_succ, List.set_cons_zero]; rfl) ?_
        refine relPure Ext.refl rfl rfl rfl rfl (c := .int .u32 (v3 : Int)) (fun w hw => by have := (ax.below hw.drew).cell 65 _ x3; go_simp; first | done | rfl) (by simp only [List.set_cons_succ, List.set_cons_zero]; rfl) ?_
        refine relPure Ext.refl rfl rfl rfl rfl (c := .bool false) (fun w _ => by have := s3.out; go_simp; first | done | rfl | omega) (by simp only [List.set_cons_succ, List.set_cons_zero]; rfl) ?_
        refine relMove Ext.refl rfl rfl rfl rfl _ (.inl rfl) (by conv => lhs; whnf) (by simp only [List.set_cons_succ, List.set_cons_zero]; rfl) ?_
        refine relPure Ext.refl rfl rfl rfl rfl (c := .bool true) (fun w _ => by have := hs2.out; go_simp; first | done | rfl | omega) (by simp only [List.set_cons_succ, List.set_cons_zero]; rfl) ?_
        refine relMove Ext.refl rfl rfl rfl rfl _ (.inl rfl) (by conv => lhs; whnf) (by simp only [List.set_cons_succ, List.set_cons_zero]; rfl) ?_
        refine relMove Ext.refl rfl rfl rfl rfl _ (.inl rfl) (by conv => lhs; whnf) (by simp only [List.set_cons_succ, List.set_cons_zero]; rfl) ?_
        refine relPure Ext.refl rfl rfl rfl rfl (c := .bool false) (fun w _ => by have := hs2.out; go_simp; first | done | rfl | omega) (by simp only [List.set_cons_succ, List.set_cons_zero]; rfl) ?_
        refine relPick Ext.refl rfl rfl rfl rfl _ _ _ rfl rfl (by conv => lhs; whnf) (by simp only [List.set_cons_succ, List.set_cons_zero]; rfl) ?_
        refine relPure Ext.refl rfl rfl rfl rfl (c := .bool true) (fun w _ => by go_simp; first | done | rfl) (by simp only [List.set_cons_succ, List.set_cons_zero]; rfl) ?_
        refine relPick Ext.refl rfl rfl rfl rfl _ _ _ rfl rfl (by conv => lhs; whnf) (by simp only [List.set_cons_succ, List.set_cons_zero]; rfl) ?_
        refine relMove Ext.refl rfl rfl rfl rfl _ (.inl rfl) (by conv => lhs; whnf) (by simp only [List.set_cons_succ, List.set_cons_zero]; rfl) ?_
        refine relPure Ext.refl rfl rfl rfl rfl (fun w _ => by go_simp; first | done | rfl) (by simp only [List.set_cons_succ, List.set_cons_zero]; rfl) ?_
        refine relPure Ext.refl rfl rfl rfl rfl (c := .int .u32 (u5 : Int)) (fun w hw => by have := (ag.below hw.drew).cell 67 _ g5; go_simp; first | done | rfl) (by simp only [List.set_cons_succ, List.set_cons_zero]; rfl) ?_
        refine relPure Ext.refl rfl rfl rfl rfl (fun w _ => by go_simp; first | done | rfl) (by simp only [List.set_cons_succ, List.set_cons_zero]; rfl) ?_
        refine relPure Ext.refl rfl rfl rfl rfl (c := .int .u32 (v5 : Int)) (fun w hw => by have := (ax.below hw.drew).cell 67 _ x5; go_simp; first | done | rfl) (by simp only [List.set_cons_succ, List.set_cons_zero]; rfl) ?_
        refine relPure Ext.refl rfl rfl rfl rfl (c := .bool true) (fun w _ => by have := s5.out; go_simp; first | done | rfl | omega) (by simp only [List.set_cons_succ, List.set_cons_zero]; rfl) ?_
        refine relMove Ext.refl rfl rfl rfl rfl _ (.inl rfl) (by conv => lhs; whnf) (by simp only [List.set_cons_succ, List.set_cons_zero]; rfl) ?_
        refine relPure Ext.refl rfl rfl rfl rfl (c := .bool true) (fun w _ => by have := hs2.out; go_simp; first | done | rfl | omega) (by simp only [List.set_cons_succ, List.set_cons_zero]; rfl) ?_
        refine relPure Ext.refl rfl rfl rfl rfl (c := .bool true) (fun w _ => by go_simp; first | done | rfl) (by simp only [List.set_cons_succ, List.set_cons_zero]; rfl) ?_
        refine relPick Ext.refl rfl rfl rfl rfl _ _ _ rfl rfl (by conv => lhs; whnf) (by simp only [List.set_cons_succ, List.set_cons_zero]; rfl) ?_
        refine relEnd fun w14 hw14 => fill_end ?_
        go_wp2
        go_ret
        exact ⟨rfl, bw11.trans (hw14.drew.mono bw11.size)⟩
end Go.Proofs.YtjgdmpbaikhflaaDoor
