/- florinlaw10.awake: the document's example. -/
import Derived.Test.YtngindljhlbglaaDoorRoot
namespace Go.Proofs.YtngindljhlbglaaDoor
open Go.RowKit

/-- a hash that begins with k -/
def hN (k : UInt8) : List UInt8 := k :: List.replicate 31 0
theorem hN_length (k : UInt8) : (hN k).length = 32 := rfl
theorem build_1 (w : World) : (Instr.build 25 #[(0, .int .u8 1)]).run Tryd.prog w = .ok (.agg ((hN 1).map bv).toArray) w := by kernel_rfl
theorem build_2 (w : World) : (Instr.build 25 #[(0, .int .u8 2)]).run Tryd.prog w = .ok (.agg ((hN 2).map bv).toArray) w := by kernel_rfl
theorem build_3 (w : World) : (Instr.build 25 #[(0, .int .u8 3)]).run Tryd.prog w = .ok (.agg ((hN 3).map bv).toArray) w := by kernel_rfl
theorem wpList_exec {P : Program} {ops : Array Oper} {rest : List Oper} {o : Oper} {a : Act} {w w' : World} {Q : Exit → Act → World → Prop} {v : Value} (hg : o.guard = none) (h : (execOp a.eval o).run P w = .ok (.value v) w') (k : wpList P ops Q rest (a.put o.dst v) w') : wpList P ops Q (o :: rest) a w :=
  wpList_plain hg fun _ hK => by
    unfold Oper.wp
    rw [h]
    exact hK _ _ k
theorem exec_build {P : Program} {o : Oper} {ρ : Operand → Value} {w : World} (t : TypeId) (i : Nat) (x : Operand) (ho : o.op = .build t #[(i, x)]) (y : Value) (hy : ρ x = y) (v : Value) (h : (Instr.build t #[(i, y)]).run P w = .ok v w) :
    (execOp ρ o).run P w = .ok (.value v) w := by
  unfold execOp
  subst hy
  simp only [ho, Sem.run_bind, List.map_toArray, List.map_cons, List.map_nil, h, Result.andThen_ok]
  rfl
theorem awake_unlike : (pairB (hN 1) (hN 2) == pairB (hN 3) (hN 3)) = false := by decide +kernel
theorem mRootOf_three (x y : List (List UInt8)) (z : List UInt8) : mRootOf [x, y, [z]] = z := rfl
theorem mAlike_three (x y : List (List UInt8)) (z : List UInt8) : mAlike [x, y, [z]] = (mAlike1 x || mAlike1 y) := by simp [mAlike, mAlike1]
theorem mAlike1_two (x y : List UInt8) : mAlike1 [x, y] = (x == y) := by simp [mAlike1]
theorem mAlike1_3 (x y z : List UInt8) : mAlike1 [x, y, z] = (x == y) := by simp [mAlike1]
theorem mAlike1_4 (x y z t : List UInt8) : mAlike1 [x, y, z, t] = ((x == y) || (z == t)) := by simp [mAlike1]
theorem lv3 (a b c : List UInt8) : mLv [a, b, c] = [[a, b, c], [pairB a b, pairB c c], [pairB (pairB a b) (pairB c c)]] := by
  simp [mLv, mLvF, mUp]
theorem lv4 (a b c d : List UInt8) : mLv [a, b, c, d] = [[a, b, c, d], [pairB a b, pairB c d], [pairB (pairB a b) (pairB c d)]] := by
  simp [mLv, mLvF, mUp]
theorem wpList_buildH {ops : Array Oper} {rest : List Oper} {o : Oper} {a : Act} {w : World} {Q : Exit → Act → World → Prop} (hg : o.guard = none) (l : List (List UInt8)) (h32 : All32 l) (n : Nat) (hn : l.length = n) (hp : 0 < n) (hs : n ≤ 1000) (parts : List (Nat × Operand)) (ho : o.op = .buildSlice 22 n parts.toArray)
    (hparts : (parts.map fun x => (x.1, a.eval x.2)) = ((l.map fun x => Value.agg (hcs x)).zipIdx 0).map fun x => (x.2, x.1))
    (h : wpList Tryd.prog ops Q rest (a.put o.dst (.slice (some ⟨w.heap.size, 0, none⟩) n n)) (w.alloc (.cells (hcl l).toArray 25))) : wpList Tryd.prog ops Q (o :: rest) a w :=
  wpList_plain hg fun _ hK => by
    unfold Oper.wp execOp
    simp only [ho, Sem.run_bind, run_buildH w l h32 n hn hp hs (parts.toArray.map fun x => (x.1, a.eval x.2)) (by rw [List.map_toArray]; exact hparts), Result.andThen_ok]
    exact hK _ _ h

set_option maxRecDepth 10000 in
set_option maxHeartbeats 1000000 in
theorem awake10 (w : World) (ht : Tabs w) : Calls Tryd.prog 9 #[] w fun e w' => e = .returned (.bool true) ∧ Below w.heap.size w w' := by
  have z1 := build_1
  have z2 := build_2
  have z3 := build_3
  have l1 := hN_length 1
  have l2 := hN_length 2
  have l3 := hN_length 3
  have hun := awake_unlike
  have n12 : (hN 1 == hN 2) = false := by decide
  generalize hN 1 = a at *
  generalize hN 2 = b at *
  generalize hN 3 = c at *
  have hz := zeros_32
  have hzl : (List.replicate 32 (0 : UInt8)).length = 32 := by simp
  obtain ⟨zs, hzs⟩ : ∃ zs : List UInt8, zs = List.replicate 32 0 := ⟨_, rfl⟩
  rw [← hzs] at hz hzl
  clear hzs
  replace hzl := Lib.hid hzl
  replace l1 := Lib.hid l1
  replace l2 := Lib.hid l2
  replace l3 := Lib.hid l3
  replace hun := Lib.hid hun
  replace n12 := Lib.hid n12
  go_enter Tryd.func9, Tryd.ntmps9
  have b0 := Below.refl w.heap.size w
  have hsz : ∀ (v : World) (o : Obj), (v.alloc o).heap.size = v.heap.size + 1 := fun v o => by simp
  go_upto_region 2 with (first
    | (refine wpList_exec (v := .agg (a.map bv).toArray) rfl (exec_build _ 0 _ rfl (.int .u8 1) rfl _ (z1 _)) ?_)
    | (refine wpList_storeAv (b0.alloc b0.size _) (heap_alloc_new _ _) b0.size rfl _ _ _ rfl rfl (a.map bv) rfl 32 (by rw [List.length_map, l1.out]) (by kernel_rfl) (by rw [List.size_toArray, List.length_map]; exact hzl.out) (by simp [Value.oneCell']) ?_; intro w1 a1 b1 k1 s1; replace s1 := Lib.hid s1))
  go_upto_region 3 with (first
    | (refine wpList_exec (v := .agg (b.map bv).toArray) rfl (exec_build _ 0 _ rfl (.int .u8 2) rfl _ (z2 _)) ?_)
    | (refine wpList_storeAv (b1.alloc b1.size _) (heap_alloc_new _ _) b1.size rfl _ _ _ rfl rfl (b.map bv) rfl 32 (by rw [List.length_map, l2.out]) (by kernel_rfl) (by rw [List.size_toArray, List.length_map]; exact hzl.out) (by simp [Value.oneCell']) ?_; intro w2 a2 b2 k2 s2; replace s2 := Lib.hid s2))
  replace a1 := (a1.alloc (.cells (zs.map bv).toArray 25)).same (k2 _ (by have := a1.lt; omega))
  go_upto_region 4 with (first
    | (refine wpList_exec (v := .agg (c.map bv).toArray) rfl (exec_build _ 0 _ rfl (.int .u8 3) rfl _ (z3 _)) ?_)
    | (refine wpList_storeAv (b2.alloc b2.size _) (heap_alloc_new _ _) b2.size rfl _ _ _ rfl rfl (c.map bv) rfl 32 (by rw [List.length_map, l3.out]) (by kernel_rfl) (by rw [List.size_toArray, List.length_map]; exact hzl.out) (by simp [Value.oneCell']) ?_; intro w3 a3 b3 k3 s3; replace s3 := Lib.hid s3))
  replace a1 := (a1.alloc (.cells (zs.map bv).toArray 25)).same (k3 _ (by have := a1.lt; omega))
  replace a2 := (a2.alloc (.cells (zs.map bv).toArray 25)).same (k3 _ (by have := a2.lt; omega))
  clear k1 k2 k3 z1 z2 z3 b0 b1 b2
  have hp1 := pairB_length (pairB a b) (pairB c c)
  have h3 : All32 [a, b, c] := by
    intro x hx
    simp only [List.mem_cons, List.not_mem_nil, or_false] at hx
    rcases hx with rfl | rfl | rfl
    · exact l1.out
    · exact l2.out
    · exact l3.out
  have h4 : All32 [a, b, c, c] := by
    intro x hx
    simp only [List.mem_cons, List.not_mem_nil, or_false] at hx
    rcases hx with rfl | rfl | rfl | rfl
    · exact l1.out
    · exact l2.out
    · exact l3.out
    · exact l3.out
  have R3 := Root [a, b, c] h3
  have R4 := Root [a, b, c, c] h4
  have e3 : mRootOf (mLv [a, b, c]) = pairB (pairB a b) (pairB c c) := by rw [lv3, mRootOf_three]
  have e4 : mRootOf (mLv [a, b, c, c]) = pairB (pairB a b) (pairB c c) := by rw [lv4, mRootOf_three]
  have f3 : mAlike (mLv [a, b, c]) = false := by
    rw [lv3, mAlike_three, mAlike1_3, mAlike1_two, n12.out, hun.out]
    rfl
  have f4 : mAlike (mLv [a, b, c, c]) = true := by
    rw [lv4, mAlike_three, mAlike1_4, beq_self_eq_true, Bool.or_true, Bool.true_or]
  rw [e3, f3] at R3
  rw [e4, f4] at R4
  obtain ⟨r, hrr⟩ : ∃ r, r = pairB (pairB a b) (pairB c c) := ⟨_, rfl⟩
  rw [← hrr] at R3 R4 hp1
  clear e3 e4 f3 f4 n12 hun
  replace R3 := Lib.hid R3
  replace R4 := Lib.hid R4
  replace hp1 := Lib.hid hp1
  replace hrr := Lib.hid hrr
  go_wp2_with (first
    | (refine wpList_loadAv a1 rfl _ _ rfl rfl _ 32 (by rw [List.length_map, l1.out]) Tryd.underlying25 rfl (by kernel_rfl) ?_)
    | (refine wpList_loadAv a2 rfl _ _ rfl rfl _ 32 (by rw [List.length_map, l2.out]) Tryd.underlying25 rfl (by kernel_rfl) ?_)
    | (refine wpList_loadAv a3 rfl _ _ rfl rfl _ 32 (by rw [List.length_map, l3.out]) Tryd.underlying25 rfl (by kernel_rfl) ?_)
    | (refine wpList_buildH rfl [a, b, c] h3 3 rfl (by omega) (by omega) _ rfl rfl ?_))
  have b4 := b3.alloc b3.size (.cells (hcl [a, b, c]).toArray 25)
  have q1 : Av (w3.alloc (.cells (hcl [a, b, c]).toArray 25)) w3.heap.size 25 (hcl [a, b, c]) := heap_alloc_new _ _
  replace a1 := a1.alloc (.cells (hcl [a, b, c]).toArray 25)
  replace a2 := a2.alloc (.cells (hcl [a, b, c]).toArray 25)
  replace a3 := a3.alloc (.cells (hcl [a, b, c]).toArray 25)
  generalize w3.alloc (.cells (hcl [a, b, c]).toArray 25) = w4 at *
  refine (R3.out (some ⟨w3.heap.size, 0, none⟩) 3 3 rfl (by omega) w4 q1.rd (ht.below b4)).mono ?_
  rintro e w5 ⟨rfl, b5⟩
  clear q1
  replace a1 := a1.below b5
  replace a2 := a2.below b5
  replace a3 := a3.below b5
  replace b5 := b4.trans (b5.mono b4.size)
  go_upto_region 5 with (refine wpList_storeAv (b5.alloc b5.size _) (heap_alloc_new _ _) b5.size rfl _ _ _ rfl rfl (r.map bv) rfl 32 (by rw [List.length_map, hp1.out]) (by kernel_rfl) (by rw [List.size_toArray, List.length_map]; exact hzl.out) (by simp [Value.oneCell']) ?_; intro w6 a4 b6 kw6 sw6; replace sw6 := Lib.hid sw6)
  replace a1 := (a1.alloc (.cells (zs.map bv).toArray 25)).same (kw6 _ (Nat.ne_of_lt a1.lt))
  replace a2 := (a2.alloc (.cells (zs.map bv).toArray 25)).same (kw6 _ (Nat.ne_of_lt a2.lt))
  replace a3 := (a3.alloc (.cells (zs.map bv).toArray 25)).same (kw6 _ (Nat.ne_of_lt a3.lt))
  clear kw6 b4 b5
  go_wp2_with (first
    | (refine wpList_loadAv a1 rfl _ _ rfl rfl _ 32 (by rw [List.length_map, l1.out]) Tryd.underlying25 rfl (by kernel_rfl) ?_)
    | (refine wpList_loadAv a2 rfl _ _ rfl rfl _ 32 (by rw [List.length_map, l2.out]) Tryd.underlying25 rfl (by kernel_rfl) ?_)
    | (refine wpList_loadAv a3 rfl _ _ rfl rfl _ 32 (by rw [List.length_map, l3.out]) Tryd.underlying25 rfl (by kernel_rfl) ?_)
    | (refine wpList_buildH rfl [a, b, c, c] h4 4 rfl (by omega) (by omega) _ rfl rfl ?_))
  have b7 := b6.alloc b6.size (.cells (hcl [a, b, c, c]).toArray 25)
  have q1 : Av (w6.alloc (.cells (hcl [a, b, c, c]).toArray 25)) w6.heap.size 25 (hcl [a, b, c, c]) := heap_alloc_new _ _
  replace a1 := a1.alloc (.cells (hcl [a, b, c, c]).toArray 25)
  replace a2 := a2.alloc (.cells (hcl [a, b, c, c]).toArray 25)
  replace a3 := a3.alloc (.cells (hcl [a, b, c, c]).toArray 25)
  replace a4 := a4.alloc (.cells (hcl [a, b, c, c]).toArray 25)
  generalize w6.alloc (.cells (hcl [a, b, c, c]).toArray 25) = w7 at *
  refine (R4.out (some ⟨w6.heap.size, 0, none⟩) 4 4 rfl (by omega) w7 q1.rd (ht.below b7)).mono ?_
  rintro e w8 ⟨rfl, b8⟩
  clear q1
  replace a1 := a1.below b8
  replace a2 := a2.below b8
  replace a3 := a3.below b8
  replace a4 := a4.below b8
  replace b8 := b7.trans (b8.mono b7.size)
  go_upto_region 6 with (refine wpList_storeAv (b8.alloc b8.size _) (heap_alloc_new _ _) b8.size rfl _ _ _ rfl rfl (r.map bv) rfl 32 (by rw [List.length_map, hp1.out]) (by kernel_rfl) (by rw [List.size_toArray, List.length_map]; exact hzl.out) (by simp [Value.oneCell']) ?_; intro w9 a5 b9 kw9 sw9; replace sw9 := Lib.hid sw9)
  replace a1 := (a1.alloc (.cells (zs.map bv).toArray 25)).same (kw9 _ (Nat.ne_of_lt a1.lt))
  replace a2 := (a2.alloc (.cells (zs.map bv).toArray 25)).same (kw9 _ (Nat.ne_of_lt a2.lt))
  replace a3 := (a3.alloc (.cells (zs.map bv).toArray 25)).same (kw9 _ (Nat.ne_of_lt a3.lt))
  replace a4 := (a4.alloc (.cells (zs.map bv).toArray 25)).same (kw9 _ (Nat.ne_of_lt a4.lt))
  clear kw9 b7 b8 b6
  have H1 : ∀ w', Ext w9.drew w' → Below w.heap.size w w' := fun w' hE => b9.trans (hE.drew.mono b9.size)
  have heq : ∀ w, (binOp .eql 25 (.agg (hcs r)) (.agg (hcs r))).run Tryd.prog w = .ok (.bool true) w := fun w => by
    rw [eqlH r r hp1.out hp1.out, beq_self_eq_true]
  have P1 := Lib.hid (fun w ht => Pair a b l1.out l2.out w ht)
  have P2 := Lib.hid (fun w ht => Pair c c l3.out l3.out w ht)
  have P3 := Lib.hid (fun w ht => Pair (pairB a b) (pairB c c) (pairB_length a b) (pairB_length c c) w ht)
  rw [← hrr.out] at P3
  clear hrr R3 R4
  generalize pairB a b = pab at *
  generalize pairB c c = pcc at *
  have HH := Lib.hid (Height 3 2 (by omega) (by
    intro j hj
    rcases (show j = 0 ∨ j = 1 by omega) with rfl | rfl <;> decide) (by decide))
  refine wp_region_relT 25 [] Ext (by kernel_rfl) (by kernel_rfl) (by kernel_rfl) (by kernel_rfl) (by kernel_rfl) Ext.refl Ext.trans (by intro p hp; cases hp) ?_
  refine relPure Ext.refl rfl rfl rfl rfl (c := .agg (r.map bv).toArray) (fun w hw => exec_loadAv (a4.below hw.drew) _ _ rfl rfl _ 32 (by rw [List.length_map, hp1.out]) Tryd.underlying25 rfl (by kernel_rfl)) (by simp only [List.set_cons_succ, List.set_cons_zero]; rfl) ?_
  refine relPure Ext.refl rfl rfl rfl rfl (c := .agg (r.map bv).toArray) (fun w hw => exec_loadAv (a5.below hw.drew) _ _ rfl rfl _ 32 (by rw [List.length_map, hp1.out]) Tryd.underlying25 rfl (by kernel_rfl)) (by simp only [List.set_cons_succ, List.set_cons_zero]; rfl) ?_
  refine relPure Ext.refl rfl rfl rfl rfl (c := .bool true) (fun w _ => by go_simp; first | done | rfl) (by simp only [List.set_cons_succ, List.set_cons_zero]; rfl) ?_
  refine relMove Ext.refl rfl rfl rfl rfl _ (.inl rfl) (by conv => lhs; whnf) (by simp only [List.set_cons_succ, List.set_cons_zero]; rfl) ?_
  refine relMove Ext.refl rfl rfl rfl rfl _ (.inl rfl) (by conv => lhs; whnf) (by simp only [List.set_cons_succ, List.set_cons_zero]; rfl) ?_
  refine relPure Ext.refl rfl rfl rfl rfl (fun w _ => by go_simp; first | done | rfl) (by simp only [List.set_cons_succ, List.set_cons_zero]; rfl) ?_
  refine relPick Ext.refl rfl rfl rfl rfl _ _ _ rfl rfl (by conv => lhs; whnf) (by simp only [List.set_cons_succ, List.set_cons_zero]; rfl) ?_
  refine relMove Ext.refl rfl rfl rfl rfl _ (.inl rfl) (by conv => lhs; whnf) (by simp only [List.set_cons_succ, List.set_cons_zero]; rfl) ?_
  refine relMove Ext.refl rfl rfl rfl rfl _ (.inl rfl) (by conv => lhs; whnf) (by simp only [List.set_cons_succ, List.set_cons_zero]; rfl) ?_
  refine relPick Ext.refl rfl rfl rfl rfl _ _ _ rfl rfl (by conv => lhs; whnf) (by simp only [List.set_cons_succ, List.set_cons_zero]; rfl) ?_
  refine relMove Ext.refl rfl rfl rfl rfl _ (.inl rfl) (by conv => lhs; whnf) (by simp only [List.set_cons_succ, List.set_cons_zero]; rfl) ?_
  refine relPure Ext.refl rfl rfl rfl rfl (c := .agg (r.map bv).toArray) (fun w hw => exec_loadAv (a4.below hw.drew) _ _ rfl rfl _ 32 (by rw [List.length_map, hp1.out]) Tryd.underlying25 rfl (by kernel_rfl)) (by simp only [List.set_cons_succ, List.set_cons_zero]; rfl) ?_
  refine relPure Ext.refl rfl rfl rfl rfl (c := .agg (a.map bv).toArray) (fun w hw => exec_loadAv (a1.below hw.drew) _ _ rfl rfl _ 32 (by rw [List.length_map, l1.out]) Tryd.underlying25 rfl (by kernel_rfl)) (by simp only [List.set_cons_succ, List.set_cons_zero]; rfl) ?_
  refine relPure Ext.refl rfl rfl rfl rfl (c := .agg (b.map bv).toArray) (fun w hw => exec_loadAv (a2.below hw.drew) _ _ rfl rfl _ 32 (by rw [List.length_map, l2.out]) Tryd.underlying25 rfl (by kernel_rfl)) (by simp only [List.set_cons_succ, List.set_cons_zero]; rfl) ?_
  refine relCall1 rfl rfl rfl rfl (c := .agg (hcs pab)) 11 #[.agg (hcs a), .agg (hcs b)] (fun w => by go_simp) (fun w hw => (P1.out w (ht.below (H1 w hw))).mono ?_) (by simp only [List.set_cons_succ, List.set_cons_zero]; rfl) ?_
  · rintro e w' ⟨rfl, hb⟩
    exact ⟨rfl, hb⟩
  refine relPure Ext.refl rfl rfl rfl rfl (c := .agg (c.map bv).toArray) (fun w hw => exec_loadAv (a3.below hw.drew) _ _ rfl rfl _ 32 (by rw [List.length_map, l3.out]) Tryd.underlying25 rfl (by kernel_rfl)) (by simp only [List.set_cons_succ, List.set_cons_zero]; rfl) ?_
  refine relPure Ext.refl rfl rfl rfl rfl (c := .agg (c.map bv).toArray) (fun w hw => exec_loadAv (a3.below hw.drew) _ _ rfl rfl _ 32 (by rw [List.length_map, l3.out]) Tryd.underlying25 rfl (by kernel_rfl)) (by simp only [List.set_cons_succ, List.set_cons_zero]; rfl) ?_
  refine relCall1 rfl rfl rfl rfl (c := .agg (hcs pcc)) 11 #[.agg (hcs c), .agg (hcs c)] (fun w => by go_simp) (fun w hw => (P2.out w (ht.below (H1 w hw))).mono ?_) (by simp only [List.set_cons_succ, List.set_cons_zero]; rfl) ?_
  · rintro e w' ⟨rfl, hb⟩
    exact ⟨rfl, hb⟩
  refine relCall1 rfl rfl rfl rfl (c := .agg (hcs r)) 11 #[.agg (hcs pab), .agg (hcs pcc)] (fun w => by go_simp) (fun w hw => (P3.out w (ht.below (H1 w hw))).mono ?_) (by simp only [List.set_cons_succ, List.set_cons_zero]; rfl) ?_
  · rintro e w' ⟨rfl, hb⟩
    exact ⟨rfl, hb⟩
  refine relPure Ext.refl rfl rfl rfl rfl (c := .bool true) (fun w _ => by go_simp; first | done | rfl) (by simp only [List.set_cons_succ, List.set_cons_zero]; rfl) ?_
  refine relPick Ext.refl rfl rfl rfl rfl _ _ _ rfl rfl (by conv => lhs; whnf) (by simp only [List.set_cons_succ, List.set_cons_zero]; rfl) ?_
  refine relMove Ext.refl rfl rfl rfl rfl _ (.inl rfl) (by conv => lhs; whnf) (by simp only [List.set_cons_succ, List.set_cons_zero]; rfl) ?_
  refine relCall1 rfl rfl rfl rfl (c := .int .i64 2) 12 #[.int .i64 3] (fun w => by go_simp) (fun w hw => (HH.out w).mono ?_) (by simp only [List.set_cons_succ, List.set_cons_zero]; rfl) ?_
  · rintro e w' ⟨rfl, rfl⟩
    exact ⟨rfl, Ext.refl _⟩
  refine relPure Ext.refl rfl rfl rfl rfl (c := .bool true) (fun w _ => by go_simp; first | done | rfl) (by simp only [List.set_cons_succ, List.set_cons_zero]; rfl) ?_
  refine relPick Ext.refl rfl rfl rfl rfl _ _ _ rfl rfl (by conv => lhs; whnf) (by simp only [List.set_cons_succ, List.set_cons_zero]; rfl) ?_
  refine relEnd fun w10 hw10 => fill_end ?_
  simp only [List.drop_succ_cons, List.drop_zero]
  go_wp2
  go_ret
  exact ⟨rfl, H1 w10 hw10⟩
end Go.Proofs.YtngindljhlbglaaDoor
