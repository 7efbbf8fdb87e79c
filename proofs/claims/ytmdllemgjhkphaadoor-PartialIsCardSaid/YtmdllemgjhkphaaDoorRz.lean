/- florinref11: Size, Same, Matches; florinlaw11: plain, tree, matches. -/
import Derived.Test.YtmdllemgjhkphaaDoorRx
import Derived.Test.YtmdllemgjhkphaaDoorRq
import Derived.Test.YtmdllemgjhkphaaDoorRr
import Derived.Test.YtmdllemgjhkphaaDoorPr20
import Derived.Test.YtmdllemgjhkphaaDoorPw
namespace Go.Proofs.YtmdllemgjhkphaaDoor
open Go.RowKit
attribute [local go_sem high] slB_lh slB_l slB_h
set_option maxRecDepth 100000 in
set_option maxHeartbeats 4000000 in
theorem PlainL (tot : Nat) (Ah : Option Addr) (nh ch : Nat) (Af : Option Addr) (nf cf : Nat) (w : World) : Calls Tryd.prog 19 #[.agg (trc tot Ah nh ch Af nf cf).toArray] w fun e w' => e = .returned (.agg (trc tot Ah nh ch Af nf cf).toArray) ∧ Below w.heap.size w w' := by
  obtain ⟨W, hW⟩ : ∃ W, W = (w.alloc (.cells (trc tot Ah nh ch Af nf cf).toArray 34)).alloc (.cells (trc 0 none 0 0 none 0 0).toArray 26) := ⟨_, rfl⟩
  obtain ⟨H, hH⟩ : ∃ H, H = w.heap.size := ⟨_, rfl⟩
  have bW : Below w.heap.size w W := by rw [hW]; exact ((Below.refl _ _).alloc (Nat.le_refl _) _).alloc (by simp) _
  have aN : Av W H 34 (trc tot Ah nh ch Af nf cf) := by rw [hW, hH]; exact Av.newer w (trc tot Ah nh ch Af nf cf) _ _
  have aR : Av W (H + 1) 26 (trc 0 none 0 0 none 0 0) := by rw [hW, hH, ← World.size_alloc w (.cells (trc tot Ah nh ch Af nf cf).toArray 34)]; exact Av.new _ _ _
  have c0 := aN.cell 0 _ rfl
  have c1 := aN.cell 1 _ rfl
  have c2 := aN.cell 2 _ rfl
  have hge : w.heap.size ≤ H + 1 := by rw [hH]; omega
  replace hW := Lib.hid hW
  replace hH := Lib.hid hH
  go_enter Tryd.func19, Tryd.ntmps19
  go_upto_region 1 with fail
  rw [← hH.out]
  rw [show (w.alloc (.cells (trc tot Ah nh ch Af nf cf).toArray 34)).alloc (.cells #[Value.int .u32 0, .slice none 0 0, .slice none 0 0] 26) = W from hW.out.symm]
  go_wp2_with (first
    | ((with_reducible refine wpList_bld (.agg (trc tot Ah nh ch Af nf cf).toArray) ?_ ?_); kernel_rfl)
    | ((with_reducible refine wpList_storeFA 26 bW aR hge (trc tot Ah nh ch Af nf cf) ?_ ?_ 3 rfl ?_ ?_ ?_ ?_); rfl; rfl; kernel_rfl; rfl; rfl; intro w3 a3 b3 k3 z3))
  refine bodyPost_ret (results_cell_row rfl _ _ (H + 1) _ _ (0, 0) _ (by rfl) a3 Tryd.underlying26 rfl (by kernel_rfl)) rfl ⟨rfl, b3⟩
set_option maxRecDepth 100000 in
set_option maxHeartbeats 4000000 in
theorem TreeL (tot : Nat) (Ah : Option Addr) (nh ch : Nat) (Af : Option Addr) (nf cf : Nat) (w : World) : Calls Tryd.prog 11 #[.agg (trc tot Ah nh ch Af nf cf).toArray] w fun e w' => e = .returned (.agg (trc tot Ah nh ch Af nf cf).toArray) ∧ Below w.heap.size w w' := by
  obtain ⟨W, hW⟩ : ∃ W, W = (w.alloc (.cells (trc tot Ah nh ch Af nf cf).toArray 26)).alloc (.cells (trc 0 none 0 0 none 0 0).toArray 34) := ⟨_, rfl⟩
  obtain ⟨H, hH⟩ : ∃ H, H = w.heap.size := ⟨_, rfl⟩
  have bW : Below w.heap.size w W := by rw [hW]; exact ((Below.refl _ _).alloc (Nat.le_refl _) _).alloc (by simp) _
  have aN : Av W H 26 (trc tot Ah nh ch Af nf cf) := by rw [hW, hH]; exact Av.newer w (trc tot Ah nh ch Af nf cf) _ _
  have aR : Av W (H + 1) 34 (trc 0 none 0 0 none 0 0) := by rw [hW, hH, ← World.size_alloc w (.cells (trc tot Ah nh ch Af nf cf).toArray 26)]; exact Av.new _ _ _
  have c0 := aN.cell 0 _ rfl
  have c1 := aN.cell 1 _ rfl
  have c2 := aN.cell 2 _ rfl
  have hge : w.heap.size ≤ H + 1 := by rw [hH]; omega
  replace hW := Lib.hid hW
  replace hH := Lib.hid hH
  go_enter Tryd.func11, Tryd.ntmps11
  go_upto_region 1 with fail
  rw [← hH.out]
  rw [show (w.alloc (.cells (trc tot Ah nh ch Af nf cf).toArray 26)).alloc (.cells #[Value.int .u32 0, .slice none 0 0, .slice none 0 0] 34) = W from hW.out.symm]
  go_wp2_with (first
    | ((with_reducible refine wpList_bld (.agg (trc tot Ah nh ch Af nf cf).toArray) ?_ ?_); kernel_rfl)
    | ((with_reducible refine wpList_storeFA 34 bW aR hge (trc tot Ah nh ch Af nf cf) ?_ ?_ 3 rfl ?_ ?_ ?_ ?_); rfl; rfl; kernel_rfl; rfl; rfl; intro w3 a3 b3 k3 z3))
  refine bodyPost_ret (results_cell_row rfl _ _ (H + 1) _ _ (0, 0) _ (by rfl) a3 Tryd.underlying34 rfl (by kernel_rfl)) rfl ⟨rfl, b3⟩
set_option maxRecDepth 100000 in
set_option maxHeartbeats 4000000 in
theorem SameT (hs : List (List UInt8)) (h32 : All32 hs) (fl : List UInt8) (tot : Nat) (Ah : Option Addr) (nh ch : Nat) (Af : Option Addr) (nf cf : Nat) (Bh : Option Addr) (dh : Nat) (Bf : Option Addr) (df : Nat) (hnh : hs.length = nh) (hnh2 : nh ≤ 100000) (hnf : fl.length = nf) (w : World)
    (rh : Rd w Ah (hcl hs)) (rf : Rd w Af (fl.map bv)) (qh : Rd w Bh (hcl hs)) (qf : Rd w Bf (fl.map bv)) :
    Calls Tryd.prog 18 #[.agg (trc tot Ah nh ch Af nf cf).toArray, .agg (trc tot Bh nh dh Bf nf df).toArray] w fun e w' => e = .returned (.bool true) ∧ Below w.heap.size w w' := by
  obtain ⟨W, hW⟩ : ∃ W, W = (w.alloc (.cells (trc tot Ah nh ch Af nf cf).toArray 26)).alloc (.cells (trc tot Bh nh dh Bf nf df).toArray 26) := ⟨_, rfl⟩
  obtain ⟨X, hX⟩ : ∃ X, X = w.heap.size := ⟨_, rfl⟩
  have bW : Below w.heap.size w W := by rw [hW]; exact ((Below.refl _ _).alloc (Nat.le_refl _) _).alloc (by simp) _
  have aX : Av W X 26 (trc tot Ah nh ch Af nf cf) := by rw [hW, hX]; exact Av.newer w (trc tot Ah nh ch Af nf cf) _ _
  have aY : Av W (X + 1) 26 (trc tot Bh nh dh Bf nf df) := by rw [hW, hX, ← World.size_alloc w (.cells (trc tot Ah nh ch Af nf cf).toArray 26)]; exact Av.new _ _ _
  have HS := SameH hs hs h32 h32 Ah Bh nh nh ch dh hnh hnh hnh2 hnh2 W (rh.below bW) (qh.below bW)
  rw [beq_self_eq_true] at HS
  have c0 := aX.cell 0 _ rfl
  have c1 := aX.cell 1 _ rfl
  have d0 := aY.cell 0 _ rfl
  have d1 := aY.cell 1 _ rfl
  replace hW := Lib.hid hW
  replace hX := Lib.hid hX
  replace HS := Lib.hid HS
  replace hnh := Lib.hid hnh
  replace hnf := Lib.hid hnf
  go_enter Tryd.func18, Tryd.ntmps18
  go_upto_region 1 with fail
  rw [← hX.out]
  rw [show (w.alloc (.cells (trc tot Ah nh ch Af nf cf).toArray 26)).alloc (.cells (trc tot Bh nh dh Bf nf df).toArray 26) = W from hW.out.symm]
  go_wp2_with (first
    | (go_at_call 36; refine (HS.out).mono ?_; rintro e w1 ⟨rfl, b1⟩; have e2 := (aX.below b1).cell 2 _ rfl; have e3 := (aY.below b1).cell 2 _ rfl; have h1 := conv_str (rf.below (bW.trans (b1.mono bW.size))) hnf.out cf; have h2 := conv_str (qf.below (bW.trans (b1.mono bW.size))) hnf.out df))
  go_ret
  exact ⟨rfl, bW.trans (b1.mono bW.size)⟩
theorem part_intM (xs : Array Value) (off : Nat) (v : Value) (h : xs[off]? = some v) (w : World) : (part 3 xs off).run Tryd.prog w = .ok v w := by
  simp [part, isAgg, run_underlying Tryd.underlying3, h]
theorem sizeOf_hM (w : World) : (sizeOf 28).run Tryd.prog w = .ok 32 w := by
  obtain ⟨i0, hi, hz⟩ := Option.map_eq_some_iff.1 (show (Tryd.prog.info? 28).map (·.size) = some 32 by kernel_rfl)
  simp [sizeOf, typeInfo, hi, hz]
theorem part_hM (xs : Array Value) (off : Nat) (v : Array Value) (h : xs.extract off (off + 32) = v) (w : World) : (part 28 xs off).run Tryd.prog w = .ok (.agg v) w := by
  simp [part, isAgg, run_underlying Tryd.underlying28, h]
theorem eqFields_consM {P : Program} (d : Nat) (xs ys : Array Value) (f : Field) (fs : List Field) (w : World) (hn : (f.name == "_") = false) {t o : Nat} (ht : f.type = t) (ho : f.offset = o) (a b : Value) (r : Bool) (ha : (part t xs o).run P w = .ok a w) (hb : (part t ys o).run P w = .ok b w)
    (hr : (Op.equalIn d t a b).run P w = .ok r w) (R : Bool) (hR : (Op.eqFields d xs ys fs).run P w = .ok R w) : (Op.eqFields d xs ys (f :: fs)).run P w = .ok (r && R) w := by
  subst ht ho
  rw [Op.eqFields, if_pos (by simpa using hn), Sem.run_bind, ha, Result.andThen_ok, Sem.run_bind, hb, Result.andThen_ok, Sem.run_bind, hr, Result.andThen_ok]
  cases r
  · simp
  · simpa using hR
theorem mtc_x (p : Nat × List UInt8) (h : p.2.length = 32) : (mtc p).toArray.extract 1 33 = hcs p.2 := by
  rw [List.extract_toArray, hcs]
  congr 1
  rw [List.extract_eq_take_drop, show (mtc p).drop 1 = p.2.map bv from rfl]
  rw [List.take_of_length_le (by simp [h])]
set_option maxRecDepth 100000 in
theorem eqInMt (p : Nat × List UInt8) (h : p.2.length = 32) (w : World) : (Op.equalIn 10000 86 (.agg (mtc p).toArray) (.agg (mtc p).toArray)).run Tryd.prog w = .ok true w := by
  have q1 := run_equalIn_bytes w 9997 28 5 32 Tryd.underlying28 Tryd.underlying5 sizeOf_u8 p.2 p.2 h h
  have qi := run_equalIn_int (P := Tryd.prog) w 9998 3 .i64 .i64 (p.1 : Int) (p.1 : Int) Tryd.underlying3
  have e0 := run_equalIn_struct (P := Tryd.prog) w 9999 86 (mtc p).toArray (mtc p).toArray (by kernel_rfl) (by kernel_rfl)
  have hf : (Tryd.prog.fieldsOf 86).toList.map (fun f => ((f.name == "_"), f.type, f.offset)) = [(false, 3, 0), (false, 28, 1)] := by kernel_rfl
  generalize (Tryd.prog.fieldsOf 86).toList = fs at hf e0
  have hl : fs.length = 2 := by simpa using congrArg List.length hf
  have hfs : ∃ f0 f1, fs = [f0, f1] := by
    match fs, hl with
    | [a, b], _ => exact ⟨a, b, rfl⟩
  obtain ⟨f0, f1, rfl⟩ := hfs
  clear hl
  simp only [List.map_cons, List.map_nil, List.cons.injEq, Prod.mk.injEq, and_true] at hf
  obtain ⟨⟨a0, b0, c0⟩, ⟨a1, b1, c1⟩⟩ := hf
  refine e0.trans ?_
  refine (eqFields_consM 9999 _ _ f0 _ w a0 b0 c0 _ _ _ (part_intM _ _ (.int .i64 (p.1 : Int)) rfl w) (part_intM _ _ (.int .i64 (p.1 : Int)) rfl w) qi _
    (eqFields_consM 9999 _ _ f1 _ w a1 b1 c1 _ _ _ (part_hM _ _ _ (mtc_x p h) w) (part_hM _ _ _ (mtc_x p h) w) q1 true rfl)).trans ?_
  simp
theorem neqMt (p : Nat × List UInt8) (h : p.2.length = 32) (x y : Operand) (w : World) : (do eqGuard .neq 86 x y (.agg (mtc p).toArray) (.agg (mtc p).toArray); binOp .neq 86 (.agg (mtc p).toArray) (.agg (mtc p).toArray) : Sem Value).run Tryd.prog w = .ok (.bool false) w := by
  rw [Sem.run_bind, show (eqGuard .neq 86 x y (.agg (mtc p).toArray) (.agg (mtc p).toArray)).run Tryd.prog w = .ok () w by go_simp, Result.andThen_ok, run_neq_struct, eqInMt p h]
  rfl
theorem exec_neqMt {ρ : Operand → Value} {o : Oper} {w : World} (p : Nat × List UInt8) (h : p.2.length = 32) {x y : Operand} {t : TypeId} (ho : o.op = .binOp .neq 86 x y t) (hx : ρ x = .agg (mtc p).toArray) (hy : ρ y = .agg (mtc p).toArray) :
    (execOp ρ o).run Tryd.prog w = .ok (.value (.bool false)) w := by
  have := neqMt p h x y w
  unfold execOp
  simp only [ho, hx, hy]
  rw [Sem.run_bind, this]
  rfl
theorem mlc_neR {l : List (Nat × List UInt8)} (h : 0 < l.length) : mlc l ≠ [] := by
  cases l with
  | nil => simp at h
  | cons p l => simp [mlc, mtc]
theorem Rd.match_atR {v : World} {b off : Nat} {l : List (Nat × List UInt8)} (h : Rd v (some ⟨b, off, none⟩) (mlc l)) (h32 : ∀ p ∈ l, p.2.length = 32) (k : Nat) (p : Nat × List UInt8) (hk : l[k]? = some p) : v.rangeAt b (off + k * 33) (mtc p) := by
  intro j u hj
  exact Rd.piece mtc 33 l (fun e he => mtc_len (h32 e he)) h k p hk j u hj
set_option maxRecDepth 100000 in
set_option maxHeartbeats 4000000 in
theorem MatchesR (l : List (Nat × List UInt8)) (h32 : ∀ p ∈ l, p.2.length = 32) (n : Nat) (hn : l.length = n) (hn2 : n ≤ 100000) (A B : Option Addr) (ca cb : Nat) (w : World) (ra : Rd w A (mlc l)) (rb : Rd w B (mlc l)) :
    Calls Tryd.prog 20 #[.slice A n ca, .slice B n cb] w fun e w' => e = .returned (.bool true) ∧ Below w.heap.size w w' := by
  replace hn := Lib.hid hn
  go_enter Tryd.func20, Tryd.ntmps20
  go_wp2
  go_loopw [5] (fun i wr => ∃ k : Nat, k ≤ n ∧ i = .int .i64 (k : Int) ∧ Below w.heap.size w wr) (fun i _ => n - (intOf i).toNat)
  case atStart => exact ⟨0, by omega, rfl, Below.refl _ _⟩
  case round =>
    obtain ⟨k, hk, rfl, hbw⟩ := hrel
    by_cases hlt : k < n
    · have t1 : decide ((k : Int) < (n : Int)) = true := by simp; omega
      obtain ⟨ba, oa, rfl⟩ := ra.someA (mlc_neR (by rw [hn.out]; omega))
      obtain ⟨bb, ob, rfl⟩ := rb.someA (mlc_neR (by rw [hn.out]; omega))
      obtain ⟨p, hp⟩ : ∃ p, l[k]? = some p := ⟨_, List.getElem?_eq_getElem (by rw [hn.out]; exact hlt)⟩
      have hp32 := h32 p (List.mem_of_getElem? hp)
      have hrx := Lib.hid (fun w' (hE : Below w.heap.size w w') => (ra.below hE).match_atR h32 k p hp)
      have hry := Lib.hid (fun w' (hE : Below w.heap.size w w') => (rb.below hE).match_atR h32 k p hp)
      have hml := mtc_len hp32
      have n0 : 0 ≤ (k : Int) := by omega
      have n1 : (k : Int) < (n : Int) := by omega
      replace hp := Lib.hid hp
      replace hml := Lib.hid hml
      go_wp2_with fail
      have H1 : ∀ w', Ext wr.drew w' → Below w.heap.size w w' := fun w' hE => hbw.trans (hE.drew.mono hbw.size)
      refine wp_region_rel [] Ext (by kernel_rfl) (by kernel_rfl) (by kernel_rfl) Ext.refl Ext.trans (by intro p hp; cases hp) ?_
      refine relMove Ext.refl rfl rfl rfl rfl _ (.inl rfl) (by conv => lhs; whnf) (by simp only [List.set_cons_succ, List.set_cons_zero]; rfl) ?_
      refine relMove Ext.refl rfl rfl rfl rfl _ (.inl rfl) (by conv => lhs; whnf) (by simp only [List.set_cons_succ, List.set_cons_zero]; rfl) ?_
      refine relPure Ext.refl rfl rfl rfl rfl (fun w _ => by go_simp; first | done | rfl) (by simp only [List.set_cons_succ, List.set_cons_zero]; rfl) ?_
      refine relPure Ext.refl rfl rfl rfl rfl (c := .agg (mtc p).toArray) (fun w hw => exec_load_mid _ _ rfl ba (oa + k * 33) rfl (mtc p) _ (hrx.out w (H1 w hw)) Tryd.underlying86 rfl (by rw [hml.out]; kernel_rfl)) (by simp only [List.set_cons_succ, List.set_cons_zero]; rfl) ?_
      refine relMove Ext.refl rfl rfl rfl rfl _ (.inl rfl) (by conv => lhs; whnf) (by simp only [List.set_cons_succ, List.set_cons_zero]; rfl) ?_
      refine relMove Ext.refl rfl rfl rfl rfl _ (.inl rfl) (by conv => lhs; whnf) (by simp only [List.set_cons_succ, List.set_cons_zero]; rfl) ?_
      refine relPure Ext.refl rfl rfl rfl rfl (fun w _ => by go_simp; first | done | rfl) (by simp only [List.set_cons_succ, List.set_cons_zero]; rfl) ?_
      refine relPure Ext.refl rfl rfl rfl rfl (c := .agg (mtc p).toArray) (fun w hw => exec_load_mid _ _ rfl bb (ob + k * 33) rfl (mtc p) _ (hry.out w (H1 w hw)) Tryd.underlying86 rfl (by rw [hml.out]; kernel_rfl)) (by simp only [List.set_cons_succ, List.set_cons_zero]; rfl) ?_
      refine relPure Ext.refl rfl rfl rfl rfl (c := .bool false) (fun w hw => exec_neqMt p hp32 rfl rfl rfl) (by simp only [List.set_cons_succ, List.set_cons_zero]; rfl) ?_
      refine relEnd fun w2 hw2 => fill_end ?_
      have hb2 := H1 w2 hw2
      go_wp2
      refine ⟨⟨k + 1, by omega, by go_num, hb2⟩, ?_⟩
      simp [intOf]; omega
    · obtain rfl : k = n := by omega
      have t1 : decide ((k : Int) < (k : Int)) = false := by simp
      go_wp2
      go_ret
      exact ⟨rfl, hbw⟩
set_option maxRecDepth 100000 in
set_option maxHeartbeats 4000000 in
theorem MatchesL (l : List (Nat × List UInt8)) (h32 : ∀ p ∈ l, p.2.length = 32) (n : Nat) (hn : l.length = n) (hn2 : n ≤ 100000) (A : Option Addr) (ca : Nat) (w : World) (ra : Rd w A (mlc l)) :
    Calls Tryd.prog 21 #[.slice A n ca] w fun e w' => ∃ B cb, e = .returned (.slice B n cb) ∧ Rd w' B (mlc l) ∧ Below w.heap.size w w' := by
  replace hn := Lib.hid hn
  go_enter Tryd.func21, Tryd.ntmps21
  go_wp2
  go_loopw [3, 4] (fun v i wr => ∃ k : Nat, k ≤ n ∧ i = .int .i64 (k : Int) ∧ Below w.heap.size w wr ∧ wr.ownsRow w.heap.size 86 33 v k (mlc (l.take k))) (fun _ i _ => n - (intOf i).toNat)
  case atStart => exact ⟨0, by omega, rfl, Below.refl _ _, World.ownsRow_nil _ _ _ _⟩
  case round =>
    obtain ⟨k, hk, rfl, hbw, ho⟩ := hrel
    by_cases hlt : k < n
    · have t1 : decide ((k : Int) < (n : Int)) = true := by simp; omega
      obtain ⟨ba, oa, rfl⟩ := ra.someA (mlc_neR (by rw [hn.out]; omega))
      obtain ⟨p, hp⟩ : ∃ p, l[k]? = some p := ⟨_, List.getElem?_eq_getElem (by rw [hn.out]; exact hlt)⟩
      have hp32 := h32 p (List.mem_of_getElem? hp)
      have hrx := fun w' (hE : Below w.heap.size w w') => (ra.below hE).match_atR h32 k p hp
      have hcell := Lib.hid (fun w' (hE : Below w.heap.size w w') => show w'.cell? ⟨ba, oa + k * 33, none⟩ = some (.int .i64 (p.1 : Int)) by
        have := hrx w' hE 0 (.int .i64 (p.1 : Int)) rfl
        rwa [Nat.add_zero] at this)
      have hrng := Lib.hid (fun w' (hE : Below w.heap.size w w') => show w'.rangeAt ba (oa + k * 33 + 1) (p.2.map bv) from fun j u hj => by
        have := hrx w' hE (j + 1) u (by rw [mtc, List.singleton_append, List.getElem?_cons_succ]; exact hj)
        rwa [show oa + k * 33 + (j + 1) = oa + k * 33 + 1 + j by omega] at this)
      have xv : (p.2.map bv).length = 32 := by rw [List.length_map, hp32]
      have hl33 := mtc_len hp32
      have one33 := mtc_one p
      have n0 : 0 ≤ (k : Int) := by omega
      have n1 : (k : Int) < (n : Int) := by omega
      have hle : (k + 1) * 40 ≤ 140737488355328 := by omega
      clear hrx
      replace hp := Lib.hid hp
      replace xv := Lib.hid xv
      replace hl33 := Lib.hid hl33
      replace one33 := Lib.hid one33
      replace hp32 := Lib.hid hp32
      go_wp2_with fail
      have H1 : ∀ w', Ext wr.drew w' → Below w.heap.size w w' := fun w' hE => hbw.trans (hE.drew.mono hbw.size)
      refine wp_region_relM 13 13 [(12, fun v w' => ∃ g, v = .slice (some ⟨g, 0, none⟩) 1 1 ∧ wr.heap.size ≤ g ∧ Av w' g 86 (mtc p))] Ext (by kernel_rfl) (by simp only [waitOn]; rfl) rfl (by decide) (by kernel_rfl) (by kernel_rfl) (fun _ _ _ h => h) (by kernel_rfl) (by kernel_rfl) (by kernel_rfl) (by kernel_rfl) Ext.refl Ext.trans (by
        intro p hp v w w' hR
        simp only [List.mem_singleton] at hp
        subst hp
        rintro ⟨g, e, h1, h2⟩
        exact ⟨g, e, h1, h2.below hR⟩) ?_
      refine relMove Ext.refl rfl rfl rfl rfl _ (.inl rfl) (by conv => lhs; whnf) (by simp only [List.set_cons_succ, List.set_cons_zero]; rfl) ?_
      refine relMove Ext.refl rfl rfl rfl rfl _ (.inl rfl) (by conv => lhs; whnf) (by simp only [List.set_cons_succ, List.set_cons_zero]; rfl) ?_
      refine relMove Ext.refl rfl rfl rfl rfl _ (.inl rfl) (by conv => lhs; whnf) (by simp only [List.set_cons_succ, List.set_cons_zero]; rfl) ?_
      refine relPure Ext.refl rfl rfl rfl rfl (fun w _ => by go_simp; first | done | rfl) (by simp only [List.set_cons_succ, List.set_cons_zero]; rfl) ?_
      refine relPure Ext.refl rfl rfl rfl rfl (fun w _ => by go_simp; first | done | rfl) (by simp only [List.set_cons_succ, List.set_cons_zero]; rfl) ?_
      refine relPure Ext.refl rfl rfl rfl rfl (c := .int .i64 (p.1 : Int)) (fun w hw => by have := hcell.out w (H1 w hw); go_simp; first | done | rfl) (by simp only [List.set_cons_succ, List.set_cons_zero]; rfl) ?_
      refine relMove Ext.refl rfl rfl rfl rfl _ (.inl rfl) (by conv => lhs; whnf) (by simp only [List.set_cons_succ, List.set_cons_zero]; rfl) ?_
      refine relMove Ext.refl rfl rfl rfl rfl _ (.inl rfl) (by conv => lhs; whnf) (by simp only [List.set_cons_succ, List.set_cons_zero]; rfl) ?_
      refine relPure Ext.refl rfl rfl rfl rfl (fun w _ => by go_simp; first | done | rfl) (by simp only [List.set_cons_succ, List.set_cons_zero]; rfl) ?_
      refine relPure Ext.refl rfl rfl rfl rfl (fun w _ => by go_simp; first | done | rfl) (by simp only [List.set_cons_succ, List.set_cons_zero]; rfl) ?_
      refine relPure Ext.refl rfl rfl rfl rfl (c := .agg (hcs p.2)) (fun w hw => exec_load_mid _ _ rfl ba (oa + k * 33 + 1) rfl (p.2.map bv) _ (hrng.out w (H1 w hw)) Tryd.underlying28 rfl (by rw [xv.out]; kernel_rfl)) (by simp only [List.set_cons_succ, List.set_cons_zero]; rfl) ?_
      refine relPure Ext.refl rfl rfl rfl rfl (c := .agg (mtc p).toArray) (fun w hw => exec_build_mtR p.1 p.2 hp32.out rfl rfl rfl) (by simp only [List.set_cons_succ, List.set_cons_zero]; rfl) ?_
      refine relWord _ rfl (fun w hw => fill_none rfl (relOp_yes rfl ?_)) ?_
      · rw [exec_build1 Tryd.underlying48 infoMtR zeroMtR (by decide) (by decide) _ (mtc p) hl33.out _ rfl rfl]
        exact ⟨(Below.refl _ _).alloc (Nat.le_refl _) _, _, rfl, hw.drew.size, heap_alloc_new _ _⟩
      refine relEnd fun w6 hw6 => fill_take rfl rfl fun v hv => fill_end ?_
      obtain ⟨q, rfl, hq, aq⟩ := hv
      simp only [List.set_cons_succ, List.set_cons_zero, List.drop_succ_cons, List.drop_zero]
      have e6 := hw6.drew
      have o6 := own_below ho e6
      have b6 := H1 w6 hw6
      have hbs := b6.size
      go_wp2_with (at_builtin; refine wpList_appE Tryd.underlying48 infoMtR zeroMtR (by decide) o6 hbs (mtc p) 1 1 aq.rd (by rw [hl33.out]) one33.out (by omega) hle rfl (.tmp 11) (.tmp 23) rfl rfl rfl ?_; intro M2 w7 o7 gr7 ob7; obtain ⟨Aq, cq, rfl, hcq, _⟩ := own_form o7; have T7 := TOnly.ofGrown o6 gr7; have b7 := T7.below b6 (Nat.le_refl _) hbs)
      have e8 : mlc (l.take k) ++ mtc p = mlc (l.take (k + 1)) := by rw [List.take_add_one, hp.out, Option.toList_some]; exact mlc_snoc _ _
      rw [e8] at o7
      refine ⟨⟨k + 1, by omega, by go_num, b7, o7⟩, ?_⟩
      simp [intOf]; omega
    · obtain rfl : k = n := by omega
      have t1 : decide ((k : Int) < (k : Int)) = false := by simp
      obtain ⟨Aq, cq, rfl, hcq, _⟩ := own_form ho
      have rr := own_rd ho
      rw [List.take_of_length_le (by rw [hn.out]; omega)] at rr
      go_wp2
      go_ret
      exact ⟨Aq, cq, rfl, rr, hbw⟩
theorem hcl_zeros : ∀ k, hcl (List.replicate k zs32) = List.replicate (k * 32) (Value.int .u8 0)
  | 0 => rfl
  | k + 1 => by
    rw [List.replicate_succ, hcl_cons, hcl_zeros k, show (k + 1) * 32 = 32 + k * 32 by omega, ← List.replicate_append_replicate]
    rfl
theorem madeCells_hR (k : Nat) : madeCells (Array.replicate 32 (Value.int .u8 0)) (k * 32) = (hcl (List.replicate k zs32)).toArray := by
  rw [hcl_zeros]
  apply Array.ext
  · simp [size_madeCells]
  · intro i h1 h2
    have e : i % 32 < 32 := Nat.mod_lt _ (by decide)
    simp [madeCells, e]
theorem info_hR : (Tryd.prog.info? 28).map (fun i => (i.zero, i.size, i.bytes)) = some (some (.agg (Array.replicate 32 (Value.int .u8 0))), 32, 32) := by kernel_rfl
theorem make_hR (n : Nat) (hn : n ≤ 100000) (u : World) : (Instr.makeSlice 23 (.int .i64 (n : Int)) (.int .i64 (n : Int))).run Tryd.prog u = .ok (.slice (some ⟨u.heap.size, 0, none⟩) n n) (u.alloc (.cells (hcl (List.replicate n zs32)).toArray 28)) := by
  obtain ⟨i0, hi, hz0, hz1, hz2⟩ := info_parts info_hR
  have h := run_make (P := Tryd.prog) u 23 28 i0 (.agg (Array.replicate 32 (Value.int .u8 0))) Tryd.underlying23 hi hz0 .i64 .i64 (n : Int) (n : Int) (by omega) (by omega) (by rw [hz2]; omega) (by omega)
  have e : (n : Int).toNat = n := by omega
  rw [e, hz1] at h
  rw [h, show (Value.agg (Array.replicate 32 (Value.int .u8 0))).cells = Array.replicate 32 (Value.int .u8 0) from rfl, madeCells_hR]
theorem pBhs_len (hs : List (List UInt8)) (ms : List Bool) (n : Nat) (hn : hs.length = n) : (pBhs hs ms).length = ((pAll n ms).filter PV.told).length := by
  rw [pBhs, hn, pHs, List.length_map]
set_option maxRecDepth 100000 in
set_option maxHeartbeats 8000000 in
theorem SizeR_no (Am : Option Addr) (n : Int) (nm cm : Nat) (hn : n ≤ 0) (w : World) : Calls Tryd.prog 17 #[.int .i64 n, .slice Am nm cm] w fun e w' => e = .returned (.tuple #[.int .i64 0, .int .i64 0]) ∧ Below w.heap.size w w' := by
  obtain ⟨W, hW⟩ : ∃ W, W = w.alloc (.cells (hcl (List.replicate 0 zs32)).toArray 28) := ⟨_, rfl⟩
  have bW : Below w.heap.size w W := by rw [hW]; exact (Below.refl _ _).alloc (Nat.le_refl _) _
  have HB := BuildR_no (some ⟨w.heap.size, 0, none⟩) Am 0 nm cm W
  have HHt := fun w' => HeightR 0 0 (by omega) (fun j hj => by omega) (by decide) w'
  rw [show ((0 : Nat) : Int) = 0 from rfl] at HHt
  have hmk := make_hR 0 (by omega)
  obtain ⟨xs, hxs⟩ : ∃ xs, xs = hcl (List.replicate 0 zs32) := ⟨_, rfl⟩
  rw [← hxs] at hmk hW
  replace hxs := Lib.hid hxs
  replace HB := Lib.hid HB
  replace HHt := Lib.hid HHt
  replace hW := Lib.hid hW
  rw [show ((0 : Nat) : Int) = 0 from rfl] at hmk
  have h4 : ¬ ((4096 : Int) < n) := by omega
  have h5 : ¬ ((0 : Int) < n) := by omega
  go_enter Tryd.func17, Tryd.ntmps17
  go_upto_region 2 with fail
  go_upto_region 3 with (first
    | (go_at_call 14; rw [show w.alloc (.cells xs.toArray 28) = W from hW.out.symm]; refine (HB.out).mono ?_; rintro e w2 ⟨rfl, b2⟩)
    | ((with_reducible refine wpList_storeF 26 ((Below.refl w2.heap.size w2).alloc (Nat.le_refl _) _) (heap_alloc_new _ _) (Nat.le_refl _) (trc 0 none 0 0 none 0 0) ?_ ?_ 3 rfl ?_ ?_ ?_ ?_); rfl; rfl; kernel_rfl; rfl; rfl; intro w4 aT b4 k4 z4))
  have bw4 := (bW.trans (b2.mono bW.size)).trans (b4.mono (bW.trans (b2.mono bW.size)).size)
  have c1 := aT.cell 1 _ rfl
  go_wp2_with (go_at_call 32; refine (HHt.out _).mono ?_; rintro e w' ⟨rfl, hw'⟩; obtain rfl := hw'.symm)
  go_ret2
  exact ⟨rfl, bw4⟩
set_option maxRecDepth 100000 in
set_option maxHeartbeats 8000000 in
theorem SizeR_yes (ms : List Bool) (Am : Option Addr) (N nm cm : Nat) (hN0 : 0 < N) (hN4 : N ≤ 4096) (hnm : ms.length = nm) (hnm2 : nm ≤ 1000000) (w : World) (hrm : Rd w Am (ms.map Value.bool)) :
    Calls Tryd.prog 17 #[.int .i64 (N : Int), .slice Am nm cm] w fun e w' => e = .returned (.tuple #[.int .i64 (((pAll N ms).filter PV.told).length : Int), .int .i64 ((pAll N ms).length : Int)]) ∧ Below w.heap.size w w' := by
  obtain ⟨W, hW⟩ : ∃ W, W = w.alloc (.cells (hcl (List.replicate N zs32)).toArray 28) := ⟨_, rfl⟩
  have bW : Below w.heap.size w W := by rw [hW]; exact (Below.refl _ _).alloc (Nat.le_refl _) _
  have aW : Av W w.heap.size 28 (hcl (List.replicate N zs32)) := by rw [hW]; exact Av.new _ _ _
  have h32 : All32 (List.replicate N zs32) := fun x hx => by rw [List.eq_of_mem_replicate hx]; rfl
  have HB := BuildR_yes (List.replicate N zs32) h32 ms (some ⟨w.heap.size, 0, none⟩) Am N N nm cm (by simp) hnm hN0 hN4 hnm2 W aW.rd (hrm.below bW)
  rw [pBhs_len _ ms N (by simp)] at HB
  obtain ⟨q1, q2, q3⟩ := pHt_spec N hN4
  have HHt := fun w' => HeightR N (pHt N) q1 (fun j hj => by rw [pWd_of N j hN4 (by omega)]; have := q2 j hj; omega) (by rw [pWd_of N _ hN4 q1]; omega) w'
  have HC := fun w' r => CountR ms nm cm Am N hnm hnm2 hN0 hN4 w' r (pHt N) 0 q1 (pHt_pos N hN0)
  rw [show ((0 : Nat) : Int) = 0 from rfl] at HC
  have hpa : pVis N ms (pHt N) 0 = pAll N ms := rfl
  rw [hpa] at HC
  have hmk := make_hR N (by omega)
  obtain ⟨a, ha⟩ : ∃ a, a = ((pAll N ms).filter PV.told).length := ⟨_, rfl⟩
  obtain ⟨b, hb⟩ : ∃ b, b = (pAll N ms).length := ⟨_, rfl⟩
  rw [← ha] at HB ⊢
  rw [← hb] at HC ⊢
  obtain ⟨fl, hfl⟩ : ∃ fl, fl = pBfl N ms := ⟨_, rfl⟩
  rw [← hfl] at HB
  obtain ⟨bh, hbh⟩ : ∃ bh, bh = pBhs (List.replicate N zs32) ms := ⟨_, rfl⟩
  rw [← hbh] at HB
  obtain ⟨xs, hxs⟩ : ∃ xs, xs = hcl (List.replicate N zs32) := ⟨_, rfl⟩
  rw [← hxs] at hmk hW
  generalize pHt N = K at *
  have h4 : ¬ (4096 < N) := by omega
  have h42 : decide (4096 < N) = false := by simp; omega
  replace HB := Lib.hid HB
  replace HHt := Lib.hid HHt
  replace HC := Lib.hid HC
  replace hW := Lib.hid hW
  replace ha := Lib.hid ha
  replace hb := Lib.hid hb
  replace hfl := Lib.hid hfl
  replace hbh := Lib.hid hbh
  replace hxs := Lib.hid hxs
  replace q2 := Lib.hid q2
  clear hpa h32 aW q3
  go_enter Tryd.func17, Tryd.ntmps17
  go_upto_region 2 with fail
  go_upto_region 3 with (first
    | (go_at_call 14; rw [show w.alloc (.cells xs.toArray 28) = W from hW.out.symm]; refine (HB.out).mono ?_; rintro e w2 ⟨b2, Ah, ch, Af, cf, rfl, _, _, _, _, _, _⟩)
    | ((with_reducible refine wpList_storeF 26 ((Below.refl w2.heap.size w2).alloc (Nat.le_refl _) _) (heap_alloc_new _ _) (Nat.le_refl _) (trc N Ah a ch Af fl.length cf) ?_ ?_ 3 rfl ?_ ?_ ?_ ?_); rfl; rfl; kernel_rfl; rfl; rfl; intro w4 aT b4 k4 z4))
  have bw4 := (bW.trans (b2.mono bW.size)).trans (b4.mono (bW.trans (b2.mono bW.size)).size)
  have c1 := aT.cell 1 _ rfl
  have HC2 := Lib.hid (HC.out w4 (hrm.below bw4))
  go_wp2_with (first
    | (go_at_call 32; refine (HHt.out _).mono ?_; rintro e w' ⟨rfl, hw'⟩; obtain rfl := hw'.symm)
    | (go_at_call 35; refine (HC2.out).mono ?_; rintro e w' ⟨rfl, hw'⟩; obtain rfl := hw'.symm))
  go_ret2
  exact ⟨rfl, bw4⟩
end Go.Proofs.YtmdllemgjhkphaaDoor
