/- tree.Add, whole; florinlaw15.awake. -/
import Derived.Test.YtijnkieakenipaaDoorTa
import Derived.Test.YtijnkieakenipaaDoorHdp
namespace Go.Proofs.YtijnkieakenipaaDoor
open Go.RowKit
theorem TAdd (base R most : Nat) (v : Value) (Mp : Nat) (ns : List Nd) (h : Hd) (hh : h.ok) (w : World) (ht : Tabs w) (T : TAt w base R most v Mp ns) (hbase : base ≤ w.heap.size) :
    Calls Tryd.prog 11 #[.pointer (some ⟨R, 0, none⟩), .agg (hdc h).toArray] w fun e w' => e = .returned (.tuple #[.int .i64 (mAdd most ns h).2.1, .int .i64 ((mAdd most ns h).2.2 : Int)]) ∧ (∃ v', TAt w' base R most v' Mp (mAdd most ns h).1) ∧ Below base w w' ∧ KeepT w w' := by
  cases hk : tFind ns (hdId h) with
  | some i =>
    have e : mAdd most ns h = (ns, (i : Int), 10) := by unfold mAdd; rw [hk]
    rw [e]
    exact TAdd_known base R most v Mp ns h hh w ht T hbase i hk
  | none =>
    by_cases hn : ns.length = 0
    · have hn0 : ns = [] := List.eq_nil_of_length_eq_zero hn
      have hm : mNode ns h = some ⟨hdId h, h, -1, 0, mWork h.bits⟩ := by rw [mNode, if_pos hn]
      by_cases hf : most ≤ ns.length
      · have e : mAdd most ns h = (ns, -1, 12) := by unfold mAdd; rw [hk]; simp only [hm]; rw [if_pos hf]
        rw [e]
        exact TAdd_rootF base R most v Mp ns h hh w ht T hbase hk hn0 hf
      · have e : mAdd most ns h = (ns ++ [⟨hdId h, h, -1, 0, mWork h.bits⟩], (ns.length : Int), 0) := by unfold mAdd; rw [hk]; simp only [hm]; rw [if_neg hf]
        rw [e]
        exact TAdd_root base R most v Mp ns h hh w ht T hbase hk hn0 hf
    · cases hp : tFind ns h.prev with
      | none =>
        have hm : mNode ns h = none := by rw [mNode, if_neg hn, hp]
        have e : mAdd most ns h = (ns, -1, 9) := by unfold mAdd; rw [hk]; simp only [hm]
        rw [e]
        exact TAdd_orphan base R most v Mp ns h hh w ht T hbase hk (by omega) hp
      | some j =>
        obtain ⟨x, hx, _⟩ := tFind_some hp
        have hm : mNode ns h = some ⟨hdId h, h, (j : Int), x.hgt + 1, (x.wrk + mWork h.bits) % 115792089237316195423570985008687907853269984665640564039457584007913129639936⟩ := by rw [mNode, if_neg hn, hp]; simp only [hx]
        by_cases hf : most ≤ ns.length
        · have e : mAdd most ns h = (ns, -1, 12) := by unfold mAdd; rw [hk]; simp only [hm]; rw [if_pos hf]
          rw [e]
          exact TAdd_childF base R most v Mp ns h hh w ht T hbase hk (by omega) j x hp hx hf
        · have e : mAdd most ns h = (ns ++ [⟨hdId h, h, (j : Int), x.hgt + 1, (x.wrk + mWork h.bits) % 115792089237316195423570985008687907853269984665640564039457584007913129639936⟩], (ns.length : Int), 0) := by unfold mAdd; rw [hk]; simp only [hm]; rw [if_neg hf]
          rw [e]
          exact TAdd_child base R most v Mp ns h hh w ht T hbase hk (by omega) j x hp hx hf
/-! ### florinlaw15.awake -/
def zHd : Hd := ⟨0, List.replicate 32 0, List.replicate 32 0, 0, 0, 0⟩
def zcH : Array Value := (hdc zHd).toArray
theorem zcH_ne : zcH ≠ #[] := by
  intro h
  have := congrArg Array.size h
  revert this
  decide
theorem zvH (w : World) : (zeroValue 27).run Tryd.prog w = .ok (.agg zcH) w := by
  obtain ⟨i0, hi, hz⟩ := Option.map_eq_some_iff.1 (show (Tryd.prog.info? 27).map (·.zero) = some (some (.agg zcH)) by kernel_rfl)
  simp [zeroValue, typeInfo, hi, hz]
attribute [local go_sem] zvN zvH
attribute [local simp] zcN_ne zcH_ne
theorem zcH_len : zcH.size = 68 := by rfl
theorem head_places : (match Tryd.prog.underlying 27 with | some (.struct fs) => fs.toList.mapM (fun f => (Tryd.prog.info? f.type).map fun i => (f.offset, i.size)) | _ => none) = some [(0, 1), (1, 32), (33, 32), (65, 1), (66, 1), (67, 1)] := by kernel_rfl
theorem head_zero : (Tryd.prog.info? 27).map (·.zero) = some (some (.agg zcH)) := by kernel_rfl
/-- a header that stands on one, with some bits -/
def onHd (x : List UInt8) (b : Nat) : Hd := ⟨0, x, List.replicate 32 0, 0, b, 0⟩
theorem onHd_ok {x : List UInt8} (hx : x.length = 32) {b : Nat} (hb : b < 4294967296) : (onHd x b).ok := by
  unfold Hd.ok onHd
  simp [hx]
  omega
theorem head_built (x : List UInt8) (b : Nat) (hx : x.length = 32) : Tryd.prog.built 27 [(1, .agg (hcs x)), (4, .int .u32 (b : Int))] = some (hdc (onHd x b)).toArray := by
  have hp := head_places
  rw [Tryd.underlying27] at hp
  rw [built_struct Tryd.underlying27 head_zero hp]
  have z32 : (zHd.prev.map bv).length = 32 := rfl
  have r32 : (zHd.root.map bv).length = 32 := rfl
  show Instr.fill _ (([.int .u32 0] ++ (zHd.prev.map bv ++ (zHd.root.map bv ++ [.int .u32 0, .int .u32 0, .int .u32 0]))) : List Value).toArray _ = some (([.int .u32 0] ++ (x.map bv ++ (zHd.root.map bv ++ [.int .u32 0, .int .u32 (b : Int), .int .u32 0]))) : List Value).toArray
  generalize zHd.prev.map bv = Z0 at *
  generalize zHd.root.map bv = Z1 at *
  refine Eq.trans (fill_step [.int .u32 0] Z0 (x.map bv) _ (off := 1) (size := 32) ?_ ?_ ?_ ?_ ?_) ?_
  · rfl
  · rfl
  · simpa using hx
  · rfl
  · exact z32
  rw [show ([.int .u32 0] ++ (x.map bv ++ (Z1 ++ [.int .u32 0, .int .u32 0, .int .u32 0])) : List Value) = ([.int .u32 0] ++ x.map bv ++ Z1 ++ [.int .u32 0]) ++ ([.int .u32 0] ++ [.int .u32 0]) by simp]
  refine Eq.trans (fill_step ([.int .u32 0] ++ x.map bv ++ Z1 ++ [.int .u32 0]) [.int .u32 0] [.int .u32 (b : Int)] _ (off := 66) (size := 1) ?_ ?_ ?_ ?_ ?_) ?_
  · rfl
  · rfl
  · rfl
  · simp [hx, r32]
  · rfl
  rw [Instr.fill]
  congr 2
  simp
def awA : Hd := onHd (List.replicate 32 0) 545259519
def awB : Hd := onHd (hdId awA) 545259519
def awC : Hd := onHd (hdId awA) 538968063
def aw1 : List Nd := (mAdd 9 [] awA).1
def aw2 : List Nd := (mAdd 9 aw1 awB).1
def aw3 : List Nd := (mAdd 9 aw2 awC).1
theorem aw_best : mBest aw2 = 1 ∧ aw2.length = 2 ∧ (mAdd 9 aw2 awC).2 = (2, 0) ∧ mBest aw3 = 2 ∧ aw3.length = 3 := by decide +kernel
theorem awA_built (a : Act) (w' : World) (d tp pos af) : (execOp a.eval ⟨d, .build 27 #[(4, .const (.int .u32 545259519))], tp, pos, af, none⟩).run Tryd.prog w' = .ok (.value (.agg (hdc awA).toArray)) w' := by
  kernel_rfl
theorem wpList_bldF {P : Program} {ty : TypeId} (cs : List Value) {ops : Array Oper} {parts : List (Nat × Operand)} {rest : List Oper} {a : Act} {w : World} {Q : Exit → Act → World → Prop} {d tp pos af} (h : P.built ty (parts.map fun p => (p.1, a.eval p.2)) = some cs.toArray) (k : wpList P ops Q rest (a.put d (.agg cs.toArray)) w) : wpList P ops Q (⟨d, .build ty parts.toArray, tp, pos, af, none⟩ :: rest) a w :=
  wpList_execW rfl (exec_build rfl h) k
set_option maxRecDepth 100000 in
set_option maxHeartbeats 4000000 in
theorem awake15 (w : World) (ht : Tabs w) : Calls Tryd.prog 9 #[] w fun e w' => e = .returned (.bool true) ∧ Below w.heap.size w w' := by
  have okA : awA.ok := onHd_ok (by simp) (by omega)
  have okB : awB.ok := onHd_ok (hdId_length _) (by omega)
  have okC : awC.ok := onHd_ok (hdId_length _) (by omega)
  obtain ⟨f1, f2, f3, f4, f5⟩ := aw_best
  have HN := TNew 9 w
  rw [show clampN 9 = 9 from rfl] at HN
  have HA1 : ∀ (w' : World) (R M : Nat) (v : Value), w.heap.size ≤ w'.heap.size → Tabs w' → TAt w' w.heap.size R 9 v M [] → Calls Tryd.prog 11 #[.pointer (some ⟨R, 0, none⟩), .agg (hdc awA).toArray] w' fun e w'' => (∃ x y, e = .returned (.tuple #[.int .i64 x, .int .i64 y])) ∧ (∃ v', TAt w'' w.heap.size R 9 v' M aw1) ∧ Below w.heap.size w' w'' ∧ KeepT w' w'' :=
    fun w' R M v hb t T => (TAdd _ R 9 v M [] awA okA w' t T hb).mono (by rintro e w'' ⟨rfl, q⟩; exact ⟨⟨_, _, rfl⟩, q⟩)
  have HA2 : ∀ (w' : World) (R M : Nat) (v : Value), w.heap.size ≤ w'.heap.size → Tabs w' → TAt w' w.heap.size R 9 v M aw1 → Calls Tryd.prog 11 #[.pointer (some ⟨R, 0, none⟩), .agg (hdc awB).toArray] w' fun e w'' => (∃ x y, e = .returned (.tuple #[.int .i64 x, .int .i64 y])) ∧ (∃ v', TAt w'' w.heap.size R 9 v' M aw2) ∧ Below w.heap.size w' w'' ∧ KeepT w' w'' :=
    fun w' R M v hb t T => (TAdd _ R 9 v M aw1 awB okB w' t T hb).mono (by rintro e w'' ⟨rfl, q⟩; exact ⟨⟨_, _, rfl⟩, q⟩)
  have HA3 : ∀ (w' : World) (R M : Nat) (v : Value), w.heap.size ≤ w'.heap.size → Tabs w' → TAt w' w.heap.size R 9 v M aw2 → Calls Tryd.prog 11 #[.pointer (some ⟨R, 0, none⟩), .agg (hdc awC).toArray] w' fun e w'' => e = .returned (.tuple #[.int .i64 2, .int .i64 0]) ∧ (∃ v', TAt w'' w.heap.size R 9 v' M aw3) ∧ Below w.heap.size w' w'' ∧ KeepT w' w'' :=
    fun w' R M v hb t T => (TAdd _ R 9 v M aw2 awC okC w' t T hb).mono (by rintro e w'' ⟨rfl, q⟩; rw [f3]; exact ⟨rfl, q⟩)
  have HB2 : ∀ (w' : World) (v : Value), TRef w' v aw2 → Calls Tryd.prog 13 #[v] w' fun e w'' => e = .returned (.tuple #[.int .i64 1, .bool true]) ∧ Below w'.heap.size w' w'' :=
    fun w' v t => (TBest v aw2 w' t).mono (by rintro e w'' ⟨rfl, q⟩; rw [f1, f2]; exact ⟨rfl, q⟩)
  have HB3 : ∀ (w' : World) (v : Value), TRef w' v aw3 → Calls Tryd.prog 13 #[v] w' fun e w'' => e = .returned (.tuple #[.int .i64 2, .bool true]) ∧ Below w'.heap.size w' w'' :=
    fun w' v t => (TBest v aw3 w' t).mono (by rintro e w'' ⟨rfl, q⟩; rw [f4, f5]; exact ⟨rfl, q⟩)
  have HL3 : ∀ (w' : World) (v : Value), TRef w' v aw3 → Calls Tryd.prog 15 #[v] w' fun e w'' => e = .returned (.int .i64 3) ∧ w' = w'' :=
    fun w' v t => (TLen v aw3 w' t).mono (by rintro e w'' ⟨rfl, q⟩; rw [f5]; exact ⟨rfl, q⟩)
  have HI := fun w' t => HdId awA okA w' t
  have hbB := head_built (hdId awA) 545259519 (hdId_length _)
  have hbC := head_built (hdId awA) 538968063 (hdId_length _)
  rw [show onHd (hdId awA) 545259519 = awB from rfl] at hbB
  rw [show onHd (hdId awA) 538968063 = awC from rfl] at hbC
  obtain ⟨X, hX⟩ : ∃ X, X = hdId awA := ⟨_, rfl⟩
  rw [← hX] at HI hbB hbC
  have lA := Lib.hid (hdc_length okA)
  have lB := Lib.hid (hdc_length okB)
  have lC := Lib.hid (hdc_length okC)
  have hbA := awA_built
  obtain ⟨yA, eA⟩ : ∃ y, y = awA := ⟨_, rfl⟩
  obtain ⟨yB, eB⟩ : ∃ y, y = awB := ⟨_, rfl⟩
  obtain ⟨yC, eC⟩ : ∃ y, y = awC := ⟨_, rfl⟩
  obtain ⟨n1, e1⟩ : ∃ y, y = aw1 := ⟨_, rfl⟩
  obtain ⟨n2, e2⟩ : ∃ y, y = aw2 := ⟨_, rfl⟩
  obtain ⟨n3, e3⟩ : ∃ y, y = aw3 := ⟨_, rfl⟩
  rw [← eA, ← e1] at HA1
  rw [← eB, ← e1, ← e2] at HA2
  rw [← eC, ← e2, ← e3] at HA3
  rw [← e2] at HB2
  rw [← e3] at HB3 HL3
  rw [← eA] at HI hbA lA
  rw [← eB] at hbB lB
  rw [← eC] at hbC lC
  have oA := Lib.hid (List.all_eq_true.2 (hdc_one yA))
  have oB := Lib.hid (List.all_eq_true.2 (hdc_one yB))
  have oC := Lib.hid (List.all_eq_true.2 (hdc_one yC))
  clear f1 f2 f3 f4 f5 okA okB okC eA eB eC e1 e2 e3 hX
  replace HN := Lib.hid HN
  replace HA1 := Lib.hid HA1
  replace HA2 := Lib.hid HA2
  replace HA3 := Lib.hid HA3
  replace HB2 := Lib.hid HB2
  replace HB3 := Lib.hid HB3
  replace HL3 := Lib.hid HL3
  replace HI := Lib.hid HI
  replace hbA := Lib.hid hbA
  replace hbB := Lib.hid hbB
  replace hbC := Lib.hid hbC
  go_enter Tryd.func9, Tryd.ntmps9
  go_upto_region 2 with (go_at_call 10; refine (HN.out).mono ?_; rintro e w1 ⟨⟨R, M, rfl, T1⟩, b1⟩)
  go_upto_region 3 with (first
    | (with_reducible refine wpList_buildE (.agg (hdc yA).toArray) (hbA.out _ _ _ _ _ _) ?_)
    | ((with_reducible refine wpList_storeF 27 ((Below.refl w1.heap.size w1).alloc (Nat.le_refl _) _) (heap_alloc_new _ _) (Nat.le_refl _) (hdc yA) ?_ ?_ 68 lA.out ?_ ?_ ?_ ?_); rfl; rfl; kernel_rfl; exact zcH_len; exact oA.out; intro w2 a2 b2 k2 z2; clear k2; replace z2 := Lib.hid z2))
  have b02 := b1.trans (b2.mono b1.size)
  have T2 := T1.below b2
  have s2 := b02.size
  clear T1
  go_upto_region 4 with (first
    | ((with_reducible refine wpList_loadF 27 a2 ?_ _ 68 lA.out Tryd.underlying27 ?_ ?_ ?_); rfl; rfl; kernel_rfl)
    | (go_at_call 11; refine (HA1.out w2 R M _ s2 (ht.below b02) T2).mono ?_; rintro e w3 ⟨⟨x3, y3, rfl⟩, ⟨v3, T3⟩, b3, K3⟩))
  have b03 := b02.trans b3
  have aA3 := K3 _ _ _ a2 (by decide) (by decide)
  have s3 := b03.size
  clear T2 a2 K3 b3 b02
  obtain ⟨gA, hgA⟩ : ∃ g, g = w1.heap.size := ⟨_, rfl⟩
  rw [← hgA] at aA3 ⊢
  replace hgA := Lib.hid hgA
  go_upto_region 5 with (first
    | ((with_reducible refine wpList_loadF 27 aA3 ?_ _ 68 lA.out Tryd.underlying27 ?_ ?_ ?_); rfl; rfl; kernel_rfl)
    | (go_at_call 18; refine (HI.out w3 (ht.below b03)).mono ?_; rintro e w4 ⟨rfl, b4⟩)
    | ((with_reducible refine wpList_bldF (parts := [(1, .tmp 17), (4, .const (.int .u32 545259519))]) (hdc yB) ?_ ?_); exact hbB.out)
    | ((with_reducible refine wpList_storeF 27 ((Below.refl w4.heap.size w4).alloc (Nat.le_refl _) _) (heap_alloc_new _ _) (Nat.le_refl _) (hdc yB) ?_ ?_ 68 lB.out ?_ ?_ ?_ ?_); rfl; rfl; kernel_rfl; exact zcH_len; exact oB.out; intro w5 a5 b5 k5 z5; clear k5; replace z5 := Lib.hid z5))
  have b35 := b4.trans (b5.mono b4.size)
  have b05 := b03.trans (b35.mono s3)
  have T5 := T3.below b35
  have aA5 := aA3.below b35
  have s5 := b05.size
  clear b4 b5 T3 aA3 b03 b35
  obtain ⟨gB, hgB⟩ : ∃ g, g = w4.heap.size := ⟨_, rfl⟩
  rw [← hgB] at a5 ⊢
  replace hgB := Lib.hid hgB
  go_upto_region 6 with (first
    | ((with_reducible refine wpList_loadF 27 aA5 ?_ _ 68 lA.out Tryd.underlying27 ?_ ?_ ?_); rfl; rfl; kernel_rfl)
    | (go_at_call 18; refine (HI.out w5 (ht.below b05)).mono ?_; rintro e w6 ⟨rfl, b6⟩)
    | ((with_reducible refine wpList_bldF (parts := [(1, .tmp 20), (4, .const (.int .u32 538968063))]) (hdc yC) ?_ ?_); exact hbC.out)
    | ((with_reducible refine wpList_storeF 27 ((Below.refl w6.heap.size w6).alloc (Nat.le_refl _) _) (heap_alloc_new _ _) (Nat.le_refl _) (hdc yC) ?_ ?_ 68 lC.out ?_ ?_ ?_ ?_); rfl; rfl; kernel_rfl; exact zcH_len; exact oC.out; intro w7 a7 b7 k7 z7; clear k7; replace z7 := Lib.hid z7))
  have b57 := b6.trans (b7.mono b6.size)
  have b07 := b05.trans (b57.mono s5)
  have T7 := T5.below b57
  have aB7 := a5.below b57
  have s7 := b07.size
  clear b6 b7 T5 aA5 b05 b57 a5
  obtain ⟨gC, hgC⟩ : ∃ g, g = w6.heap.size := ⟨_, rfl⟩
  rw [← hgC] at a7 ⊢
  replace hgC := Lib.hid hgC
  go_upto_region 7 with (first
    | ((with_reducible refine wpList_loadF 27 aB7 ?_ _ 68 lB.out Tryd.underlying27 ?_ ?_ ?_); rfl; rfl; kernel_rfl)
    | (go_at_call 11; refine (HA2.out w7 R M _ s7 (ht.below b07) T7).mono ?_; rintro e w8 ⟨⟨x8, y8, rfl⟩, ⟨v8, T8⟩, b8, K8⟩))
  have b08 := b07.trans b8
  have aC8 := K8 _ _ _ a7 (by decide) (by decide)
  have s8 := b08.size
  clear T7 a7 aB7 K8 b8 b07
  go_upto_region 8 with (go_at_call 13; refine (HB2.out w8 _ T8.ref).mono ?_; rintro e w9 ⟨rfl, b9⟩)
  have b09 := b08.trans (b9.mono s8)
  have T9 := T8.below b9
  have aC9 := aC8.below b9
  have s9 := b09.size
  clear T8 aC8 b9 b08
  go_upto_region 9 with (first
    | ((with_reducible refine wpList_loadF 27 aC9 ?_ _ 68 lC.out Tryd.underlying27 ?_ ?_ ?_); rfl; rfl; kernel_rfl)
    | (go_at_call 11; refine (HA3.out w9 R M _ s9 (ht.below b09) T9).mono ?_; rintro e wa ⟨rfl, ⟨va, Ta⟩, ba, Ka⟩))
  have b0a := b09.trans ba
  have sa := b0a.size
  clear T9 aC9 Ka ba b09
  go_upto_region 10 with (go_at_call 13; refine (HB3.out wa _ Ta.ref).mono ?_; rintro e wb ⟨rfl, bb⟩)
  have b0b := b0a.trans (bb.mono sa)
  have Tb := Ta.below bb
  clear Ta bb b0a
  go_wp2_with (go_at_call 15; refine (HL3.out wb _ Tb.ref).mono ?_; rintro e wc ⟨rfl, rfl⟩)
  go_ret
  exact ⟨rfl, b0b⟩
end Go.Proofs.YtijnkieakenipaaDoor
