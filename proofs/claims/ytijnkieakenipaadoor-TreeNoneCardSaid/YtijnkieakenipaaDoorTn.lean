/- tree.Add where there is no room; the law TreeNone. -/
import Derived.Test.YtijnkieakenipaaDoorTb
namespace Go.Proofs.YtijnkieakenipaaDoor
open Go.RowKit
attribute [local go_sem] zvN zvH
attribute [local simp] zcN_ne zcH_ne
/-- a tree with no room -/
def TZ (w : World) (v : Value) : Prop := v = .pointer none ∨ ∃ R M, v = .pointer (some ⟨R, 0, none⟩) ∧ TRv w R 0 none 0 0 M []
theorem TZ.ref {w : World} {v : Value} (h : TZ w v) : TRef w v [] := by
  rcases h with rfl | ⟨R, M, rfl, T⟩
  · exact .inl ⟨rfl, rfl⟩
  · exact .inr ⟨R, 0, none, 0, 0, M, rfl, T⟩
theorem TZ.below {w w' : World} {v : Value} (h : TZ w v) (b : Below w.heap.size w w') : TZ w' v := by
  rcases h with rfl | ⟨R, M, rfl, T⟩
  · exact .inl rfl
  · exact .inr ⟨R, M, rfl, T.below b⟩
set_option maxRecDepth 100000 in
set_option maxHeartbeats 8000000 in
theorem TAdd_none (v : Value) (h : Hd) (hh : h.ok) (w : World) (ht : Tabs w) (T : TZ w v) :
    Calls Tryd.prog 11 #[v, .agg (hdc h).toArray] w fun e w' => e = .returned (.tuple #[.int .i64 (-1), .int .i64 12]) ∧ Below w.heap.size w w' := by
  have hk : tFind [] (hdId h) = none := rfl
  obtain ⟨W, hW⟩ : ∃ W, W = w.alloc (.cells (hdc h).toArray 27) := ⟨_, rfl⟩
  obtain ⟨H, hH⟩ : ∃ H, H = w.heap.size := ⟨_, rfl⟩
  have bW : Below w.heap.size w W := by rw [hW]; exact (Below.refl _ _).alloc (Nat.le_refl _) _
  have aH : Av W H 27 (hdc h) := by rw [hW, hH]; exact heap_alloc_new _ _
  have h68 := Lib.hid (hdc_length hh)
  have HI := HdId h hh W (ht.below bW)
  have hX := hdId_length h
  obtain ⟨X, hXe⟩ : ∃ X, X = hdId h := ⟨_, rfl⟩
  rw [← hXe] at HI hX hk
  have l32 : Hid ((X.map bv).length = 32) := Lib.hid (by rw [List.length_map]; exact hX)
  have one32 := Lib.hid (List.all_eq_true.2 (bv_one X))
  have HF := fun w' (q : TZ w' v) => TFind _ [] X hX w' q.ref
  rw [hk] at HF
  have z32 := Lib.hid (show ((#[.int .u8 0, .int .u8 0, .int .u8 0, .int .u8 0, .int .u8 0, .int .u8 0, .int .u8 0, .int .u8 0, .int .u8 0, .int .u8 0, .int .u8 0, .int .u8 0, .int .u8 0, .int .u8 0, .int .u8 0, .int .u8 0, .int .u8 0, .int .u8 0, .int .u8 0, .int .u8 0, .int .u8 0, .int .u8 0, .int .u8 0, .int .u8 0, .int .u8 0, .int .u8 0, .int .u8 0, .int .u8 0, .int .u8 0, .int .u8 0, .int .u8 0, .int .u8 0] : Array Value)).size = 32 from rfl)
  replace hXe := Lib.hid hXe
  replace HI := Lib.hid HI
  replace HF := Lib.hid HF
  replace hk := Lib.hid hk
  replace hX := Lib.hid hX
  replace hW := Lib.hid hW
  replace hH := Lib.hid hH
  have c66 := Lib.hid (hdc_at hh).2.2.1
  obtain ⟨bb, hbb⟩ : ∃ b, b = h.bits := ⟨_, rfl⟩
  rw [← hbb] at c66
  have HW := TWork bb (by rw [hbb]; exact hh.2.2.2.2.1)
  obtain ⟨Wk, hWk⟩ : ∃ k, k = mWork bb := ⟨_, rfl⟩
  rw [← hWk] at HW
  have hWl : Wk < 115792089237316195423570985008687907853269984665640564039457584007913129639936 := by rw [hWk]; exact mWork_lt bb
  obtain ⟨nd0, hnd0⟩ : ∃ n : Nd, n = ⟨X, h, -1, 0, Wk⟩ := ⟨_, rfl⟩
  have nok0 : NdOk nd0 := by rw [hnd0]; exact ⟨hX.out, hh, hWl⟩
  have hbt := node_built X h Wk hX.out hh
  rw [← hnd0] at hbt
  have l106 := Lib.hid (ndc_length nok0)
  have one106 := Lib.hid (List.all_eq_true.2 (ndc_one nd0))
  replace hbt := Lib.hid hbt
  replace HW := Lib.hid HW
  replace hbb := Lib.hid hbb
  replace hWk := Lib.hid hWk
  replace hnd0 := Lib.hid hnd0
  go_enter Tryd.func11, Tryd.ntmps11
  go_upto_region 1 with fail
  rw [← hW.out, ← hH.out]
  go_upto_region 2 with (first
    | ((with_reducible refine wpList_loadF 27 aH ?_ _ 68 h68.out Tryd.underlying27 ?_ ?_ ?_); rfl; rfl; kernel_rfl)
    | (go_at_call 18; refine (HI.out).mono ?_; rintro e w1 ⟨rfl, b1⟩)
    | ((with_reducible refine wpList_storeF 25 ((Below.refl w1.heap.size w1).alloc (Nat.le_refl _) _) (heap_alloc_new _ _) (Nat.le_refl _) (X.map bv) ?_ ?_ 32 l32.out ?_ ?_ ?_ ?_); rfl; rfl; kernel_rfl; exact z32.out; exact one32.out; intro w2 a2 b2 k2 z2; clear k2; replace z2 := Lib.hid z2))
  have b02 := bW.trans ((b1.mono bW.size).trans (b2.mono (Nat.le_trans bW.size b1.size)))
  have aH2 := (aH.below b1).below b2
  have T2 := T.below b02
  clear b1 b2 aH bW
  obtain ⟨g6, hg6⟩ : ∃ g, g = w1.heap.size := ⟨_, rfl⟩
  rw [← hg6] at a2 ⊢
  replace hg6 := Lib.hid hg6
  go_upto_region 3 with (first
    | ((with_reducible refine wpList_loadF 25 a2 ?_ _ 32 l32.out Tryd.underlying25 ?_ ?_ ?_); rfl; rfl; kernel_rfl)
    | (go_at_call 12; refine (HF.out w2 T2).mono ?_; rintro e w3 ⟨rfl, b3⟩))
  have b03 := b02.trans (b3.mono b02.size)
  have aH3 := aH2.below b3
  have aX3 := a2.below b3
  have T3 := T2.below b3
  clear b3 a2 aH2 T2 b02
  go_upto_region 5 with fail
  refine wp_region_relO [⟨6, 9, 7, 41, ndc zeroNd, ndc nd0⟩] [] (by kernel_rfl) (by kernel_rfl) (by kernel_rfl) (by kernel_rfl) (by kernel_rfl) (by intro e he; cases he) (by simp) (by intro e he; cases he) ?_
  refine oPure rfl rfl rfl rfl (c := .agg (X.map bv).toArray) (fun w hw => exec_loadAv (aX3.below hw.nil) _ _ rfl rfl _ 32 l32.out Tryd.underlying25 rfl (by kernel_rfl)) (by simp only [List.set_cons_succ, List.set_cons_zero]; rfl) ?_
  refine oPure rfl rfl rfl rfl (c := .agg (hdc h).toArray) (fun w hw => exec_loadAv (aH3.below hw.nil) _ _ rfl rfl _ 68 h68.out Tryd.underlying27 rfl (by kernel_rfl)) (by simp only [List.set_cons_succ, List.set_cons_zero]; rfl) ?_
  refine oPure rfl rfl rfl rfl (c := .pointer (some ⟨H, 66, none⟩)) (fun w _ => by go_simp; first | done | rfl) (by simp only [List.set_cons_succ, List.set_cons_zero]; rfl) ?_
  refine oPure rfl rfl rfl rfl (c := .int .u32 (bb : Int)) (fun w hw => by have := (aH3.below hw.nil).cell 66 _ c66.out; go_simp; first | done | rfl) (by simp only [List.set_cons_succ, List.set_cons_zero]; rfl) ?_
  refine oCall1 rfl rfl rfl rfl (c := .agg (uc Wk).toArray) 20 #[.int .u32 (bb : Int)] (fun w => by go_simp) (fun w hw => (HW.out w).mono (by rintro e w' ⟨rfl, b⟩; exact ⟨rfl, b⟩)) (by simp only [List.set_cons_succ, List.set_cons_zero]; rfl) ?_
  refine oPure rfl rfl rfl rfl (c := .agg (ndc nd0).toArray) (fun w hw => exec_build (cs := ndc nd0) (ops := [(0, .tmp 24), (1, .tmp 25), (2, .const (.int .i64 (-1))), (4, .tmp 28)]) rfl hbt.out) (by simp only [List.set_cons_succ, List.set_cons_zero]; rfl) ?_
  refine oAlloc rfl rfl (fun ρ w => by unfold execOp; go_simp; rfl) ?_
  refine oStore rfl rfl (fun w hw => fill_take rfl rfl fun v _ => fill_end fun b hb h0 => ?_) ?_
  · simp at hb
    subst hb
    exact bStoreRow h0 (zcN_len.trans l106.out.symm) _ _ _ rfl rfl rfl 106 l106.out (by kernel_rfl) one106.out
  refine oEnd fun w5 hw5 => fill_take rfl rfl fun v9 _ => fill_end fun hJ _ => ?_
  obtain ⟨g9, hb, hB, a9⟩ := hJ.at_ ⟨6, 9, 7, 41, ndc zeroNd, ndc nd0⟩ (List.mem_cons_self ..) rfl
  simp at hb
  subst hb
  replace a9 : Av w5 g9 41 (ndc nd0) := a9
  have b5 := hw5.nil
  have b05 := b03.trans (b5.mono b03.size)
  have aX5 := aX3.below b5
  have aH5 := aH3.below b5
  have T5 := T3.below b5
  have hg9 : w.heap.size ≤ g9 := Nat.le_trans b03.size hB
  have hg69 : g6 < g9 := Nat.lt_of_lt_of_le aX3.lt hB
  have hH9 : H < g9 := Nat.lt_of_lt_of_le aH3.lt hB
  clear hw5 hJ T3 b03 b5 aX3 aH3 hB
  simp only [List.set_cons_succ, List.set_cons_zero]
  have HL := Lib.hid (TLen _ [] w5 T5.ref)
  go_upto_region 13 with (go_at_call 15; refine (HL.out).mono ?_; rintro e w6 ⟨rfl, rfl⟩)
  rcases T5 with rfl | ⟨R, M, rfl, Tv⟩
  · refine wp_region_rel [] Ext (by kernel_rfl) (by kernel_rfl) (by kernel_rfl) Ext.refl Ext.trans (by intro p hp; cases hp) ?_
    refine relMove Ext.refl rfl rfl rfl rfl _ (.inl rfl) (by conv => lhs; whnf) (by simp only [List.set_cons_succ, List.set_cons_zero]; rfl) ?_
    refine relPure Ext.refl rfl rfl rfl rfl (c := .bool true) (fun w _ => by go_simp; first | done | rfl) (by simp only [List.set_cons_succ, List.set_cons_zero]; rfl) ?_
    refine relMove Ext.refl rfl rfl rfl rfl _ (.inl rfl) (by conv => lhs; whnf) (by simp only [List.set_cons_succ, List.set_cons_zero]; rfl) ?_
    refine relSkip rfl rfl rfl rfl (by simp only [List.set_cons_succ, List.set_cons_zero]; rfl) ?_
    refine relSkip rfl rfl rfl rfl (by simp only [List.set_cons_succ, List.set_cons_zero]; rfl) ?_
    refine relSkip rfl rfl rfl rfl (by simp only [List.set_cons_succ, List.set_cons_zero]; rfl) ?_
    refine relSkip rfl rfl rfl rfl (by simp only [List.set_cons_succ, List.set_cons_zero]; rfl) ?_
    refine relSkip rfl rfl rfl rfl (by simp only [List.set_cons_succ, List.set_cons_zero]; rfl) ?_
    refine relSkip rfl rfl rfl rfl (by simp only [List.set_cons_succ, List.set_cons_zero]; rfl) ?_
    refine relSkip rfl rfl rfl rfl (by simp only [List.set_cons_succ, List.set_cons_zero]; rfl) ?_
    refine relSkip rfl rfl rfl rfl (by simp only [List.set_cons_succ, List.set_cons_zero]; rfl) ?_
    refine relSkip rfl rfl rfl rfl (by simp only [List.set_cons_succ, List.set_cons_zero]; rfl) ?_
    refine relSkip rfl rfl rfl rfl (by simp only [List.set_cons_succ, List.set_cons_zero]; rfl) ?_
    refine relPick Ext.refl rfl rfl rfl rfl _ _ _ rfl rfl (by conv => lhs; whnf) (by simp only [List.set_cons_succ, List.set_cons_zero]; rfl) ?_
    refine relEnd fun w6 hw6 => fill_end ?_
    have b6 := b05.trans (hw6.drew.mono b05.size)
    clear HF HL hw6 b05
    go_wp2
    go_ret2
    exact ⟨rfl, b6⟩
  · refine wp_region_rel [] Ext (by kernel_rfl) (by kernel_rfl) (by kernel_rfl) Ext.refl Ext.trans (by intro p hp; cases hp) ?_
    refine relMove Ext.refl rfl rfl rfl rfl _ (.inl rfl) (by conv => lhs; whnf) (by simp only [List.set_cons_succ, List.set_cons_zero]; rfl) ?_
    refine relPure Ext.refl rfl rfl rfl rfl (c := .bool false) (fun w _ => by go_simp; first | done | rfl) (by simp only [List.set_cons_succ, List.set_cons_zero]; rfl) ?_
    refine relMove Ext.refl rfl rfl rfl rfl _ (.inl rfl) (by conv => lhs; whnf) (by simp only [List.set_cons_succ, List.set_cons_zero]; rfl) ?_
    refine relMove Ext.refl rfl rfl rfl rfl _ (.inl rfl) (by conv => lhs; whnf) (by simp only [List.set_cons_succ, List.set_cons_zero]; rfl) ?_
    refine relPure Ext.refl rfl rfl rfl rfl (c := .pointer (some ⟨R, 0, none⟩)) (fun w _ => by go_simp; first | done | rfl) (by simp only [List.set_cons_succ, List.set_cons_zero]; rfl) ?_
    refine relPure Ext.refl rfl rfl rfl rfl (c := .pointer (some ⟨R, 1, none⟩)) (fun w _ => by go_simp; first | done | rfl) (by simp only [List.set_cons_succ, List.set_cons_zero]; rfl) ?_
    refine relPure Ext.refl rfl rfl rfl rfl (c := .slice none 0 0) (fun w hw => by have := (Tv.av.below hw.drew).cell 1 _ rfl; go_simp; first | done | rfl) (by simp only [List.set_cons_succ, List.set_cons_zero]; rfl) ?_
    refine relPure Ext.refl rfl rfl rfl rfl (c := .int .i64 0) (fun w _ => by go_simp; first | done | rfl) (by simp only [List.set_cons_succ, List.set_cons_zero]; rfl) ?_
    refine relMove Ext.refl rfl rfl rfl rfl _ (.inl rfl) (by conv => lhs; whnf) (by simp only [List.set_cons_succ, List.set_cons_zero]; rfl) ?_
    refine relPure Ext.refl rfl rfl rfl rfl (c := .pointer (some ⟨R, 0, none⟩)) (fun w _ => by go_simp; first | done | rfl) (by simp only [List.set_cons_succ, List.set_cons_zero]; rfl) ?_
    refine relPure Ext.refl rfl rfl rfl rfl (c := .pointer (some ⟨R, 0, none⟩)) (fun w _ => by go_simp; first | done | rfl) (by simp only [List.set_cons_succ, List.set_cons_zero]; rfl) ?_
    refine relPure Ext.refl rfl rfl rfl rfl (c := .int .i64 0) (fun w hw => by have := (Tv.av.below hw.drew).cell 0 _ rfl; go_simp; first | done | rfl) (by simp only [List.set_cons_succ, List.set_cons_zero]; rfl) ?_
    refine relPure Ext.refl rfl rfl rfl rfl (c := .bool true) (fun w _ => by go_simp; first | done | rfl) (by simp only [List.set_cons_succ, List.set_cons_zero]; rfl) ?_
    refine relPick Ext.refl rfl rfl rfl rfl _ _ _ rfl rfl (by conv => lhs; whnf) (by simp only [List.set_cons_succ, List.set_cons_zero]; rfl) ?_
    refine relEnd fun w6 hw6 => fill_end ?_
    have b6 := b05.trans (hw6.drew.mono b05.size)
    clear HF HL hw6 b05
    go_wp2
    go_ret2
    exact ⟨rfl, b6⟩
theorem tz_built (a : Act) (w' : World) (d tp pos af) : (execOp a.eval ⟨d, .build 61 #[], tp, pos, af, none⟩).run Tryd.prog w' = .ok (.value (.agg #[.int .i64 0, .slice none 0 0, .map none])) w' := by
  kernel_rfl
theorem node_nil (i : Int) : nodeV [] i = .tuple #[.agg (ndc zeroNd).toArray, .bool false] := by
  unfold nodeV
  split
  · rename_i n hn
    split at hn <;> simp at hn
  · rfl
theorem com_nil (i j : Int) : comV [] i j = .tuple #[.int .i64 0, .bool false] := by
  rw [comV, if_neg]; simp; omega
theorem line_nil (i : Int) : lineL [] i = [] := by
  rw [lineL, if_neg]; simp
set_option maxRecDepth 100000 in
set_option maxHeartbeats 8000000 in
theorem law_TreeNone (h : Hd) (hh : h.ok) (i : Int) (hi : -9223372036854775808 ≤ i ∧ i ≤ 9223372036854775807) (w : World) (ht : Tabs w) :
    Calls Tryd.prog 8 #[.agg (hdc h).toArray, .int .i64 i] w fun e w' => e = .returned (.bool true) ∧ Below w.heap.size w w' := by
  obtain ⟨W, hW⟩ : ∃ W, W = w.alloc (.cells (hdc h).toArray 27) := ⟨_, rfl⟩
  obtain ⟨H, hH⟩ : ∃ H, H = w.heap.size := ⟨_, rfl⟩
  have bW : Below w.heap.size w W := by rw [hW]; exact (Below.refl _ _).alloc (Nat.le_refl _) _
  have aH : Av W H 27 (hdc h) := by rw [hW, hH]; exact heap_alloc_new _ _
  have h68 := Lib.hid (hdc_length hh)
  have HAW := Lib.hid (awake15 W (ht.below bW))
  have z106 : Hid ((ndc zeroNd).length = 106) := Lib.hid (by rfl)
  have zone := Lib.hid (List.all_eq_true.2 (ndc_one zeroNd))
  have HN := TNew 0
  rw [show clampN 0 = 0 from rfl] at HN
  have HAd := Lib.hid (fun (w' : World) (v : Value) (q : TZ w' v) (tt : Tabs w') => TAdd_none v h hh w' tt q)
  have HB := fun (w' : World) (v : Value) (q : TZ w' v) => TBest v [] w' q.ref
  rw [show decide (0 < ([] : List Nd).length) = false from rfl, show mBest [] = 0 from rfl] at HB
  have HNo := fun (w' : World) (v : Value) (q : TZ w' v) => TNode v [] i hi w' q.ref
  rw [node_nil] at HNo
  have HF := fun (w' : World) (v : Value) (q : TZ w' v) => TFind v [] (hdId h) (hdId_length h) w' q.ref
  rw [show tFind [] (hdId h) = none from rfl] at HF
  have HCo := fun (w' : World) (v : Value) (q : TZ w' v) => TCommon v [] TOk.nil i i w' q.ref
  rw [com_nil] at HCo
  have HL := Lib.hid (fun (w' : World) (v : Value) (q : TZ w' v) => TLen v [] w' q.ref)
  have HLi := fun (w' : World) (v : Value) (q : TZ w' v) => TLine v [] TOk.nil i hi w' q.ref
  rw [line_nil] at HLi
  have HT := Lib.hid (fun (w' : World) (v : Value) (q : TZ w' v) => TTips v [] TOk.nil w' q.ref)
  have HI := Lib.hid (fun (w' : World) (tt : Tabs w') => HdId h hh w' tt)
  replace HN := Lib.hid HN
  replace HB := Lib.hid HB
  replace HNo := Lib.hid HNo
  replace HF := Lib.hid HF
  replace HCo := Lib.hid HCo
  replace HLi := Lib.hid HLi
  replace hW := Lib.hid hW
  replace hH := Lib.hid hH
  go_enter Tryd.func8, Tryd.ntmps8
  go_upto_region 1 with fail
  rw [← hW.out, ← hH.out]
  go_upto_region 3 with (go_at_call 9; refine (HAW.out).mono ?_; rintro e w1 ⟨rfl, b1⟩)
  have b01 := bW.trans (b1.mono bW.size)
  have aH1 := aH.below b1
  clear aH b1 bW HAW
  go_upto_region 4 with (first
    | (with_reducible refine wpList_buildE (.agg #[.int .i64 0, .slice none 0 0, .map none]) (tz_built _ _ _ _ _ _) ?_)
    | (go_at_call 10; refine (HN.out _).mono ?_; rintro e w2 ⟨⟨R, M, rfl, T2⟩, b2⟩))
  have b12 : Below w.heap.size w (w1.alloc (.cells #[.int .i64 0, .slice none 0 0, .map none] 61)) := b01.alloc b01.size _
  have A1 : Av (w1.alloc (.cells #[.int .i64 0, .slice none 0 0, .map none] 61)) w1.heap.size 61 [.int .i64 0, .slice none 0 0, .map none] := heap_alloc_new _ _
  have A2 := A1.below b2
  have b02 := b12.trans (b2.mono b12.size)
  have aH2 := (aH1.alloc (.cells #[.int .i64 0, .slice none 0 0, .map none] 61)).below b2
  have z1 : TZ w2 (.pointer (some ⟨w1.heap.size, 0, none⟩)) := .inr ⟨_, none, rfl, ⟨A2, rfl, by omega, Rd.nil _ _, rfl, fun n hn => by cases hn⟩⟩
  have z2 : TZ w2 (.pointer (some ⟨R, 0, none⟩)) := by
    obtain ⟨A, c, hv, Tv⟩ := T2.rv
    injection hv with e1 e2 e3
    subst e1 e3
    exact .inr ⟨R, some M, rfl, Tv⟩
  obtain ⟨L, hL⟩ : ∃ L : List Value, L = [.pointer none, .pointer (some ⟨w1.heap.size, 0, none⟩), .pointer (some ⟨R, 0, none⟩)] := ⟨_, rfl⟩
  have hz : ∀ k, k < 3 → ∃ v, L[k]? = some v ∧ TZ w2 v := fun k hk => by
    rw [hL]
    rcases k with _ | _ | _ | k
    · exact ⟨_, rfl, .inl rfl⟩
    · exact ⟨_, rfl, z1⟩
    · exact ⟨_, rfl, z2⟩
    · omega
  have hLa : #[.pointer none, .pointer (some ⟨w1.heap.size, 0, none⟩), .pointer (some ⟨R, 0, none⟩)] = L.toArray := by rw [hL]
  rw [hLa]
  have aS : Av (w2.alloc (.cells L.toArray 29)) w2.heap.size 29 L := heap_alloc_new _ _
  have bS : Below w2.heap.size w2 (w2.alloc (.cells L.toArray 29)) := (Below.refl _ _).alloc (Nat.le_refl _) _
  have b03 := b02.trans (bS.mono b02.size)
  have aH3 := aH2.below bS
  have hz3 : ∀ k, k < 3 → ∃ v, L[k]? = some v ∧ TZ (w2.alloc (.cells L.toArray 29)) v := fun k hk => by
    obtain ⟨v, h1, h2⟩ := hz k hk
    exact ⟨v, h1, h2.below bS⟩
  obtain ⟨w3, hw3⟩ : ∃ w3, w3 = w2.alloc (.cells L.toArray 29) := ⟨_, rfl⟩
  obtain ⟨gS, hgS⟩ : ∃ g, g = w2.heap.size := ⟨_, rfl⟩
  rw [← hw3, ← hgS] at aS
  rw [← hw3] at b03 aH3 hz3 ⊢
  rw [← hgS]
  replace hw3 := Lib.hid hw3
  replace hgS := Lib.hid hgS
  replace hz := Lib.hid hz3
  clear hz3 hLa hL z1 z2 A1 A2 aH1 aH2 b01 b12 b02 b2 T2 bS
  obtain ⟨X, hX⟩ : ∃ X, X = hdId h := ⟨_, rfl⟩
  replace HF := HF.out
  replace HI := HI.out
  rw [← hX] at HF HI
  replace HF := Lib.hid HF
  replace HI := Lib.hid HI
  replace hX := Lib.hid hX
  go_upto_region 5 with fail
  go_loopw [8] (fun kv wr => ∃ k : Nat, k ≤ 3 ∧ kv = .int .i64 (k : Int) ∧ Below w3.heap.size w3 wr) (fun kv _ => 3 - (intOf kv).toNat)
  case atStart => exact ⟨0, by omega, rfl, Below.refl _ _⟩
  case round =>
    obtain ⟨k, hk, rfl, bk⟩ := hrel
    have bwk := b03.trans (bk.mono b03.size)
    by_cases hlt : k < 3
    · have t1 : decide ((k : Int) < 3) = true := by simp; omega
      obtain ⟨v, hv, tz0⟩ := hz.out k hlt
      have tz := tz0.below bk
      have a := aS.below bk
      have aH := aH3.below bk
      have k0 : (0 : Int) ≤ (k : Int) := by omega
      have k1 : (k : Int) < 3 := by omega
      replace hv := Lib.hid hv
      clear tz0 aS aH3 b03
      go_upto_region 7 with fail
      refine wp_region_rel [] Ext (by kernel_rfl) (by kernel_rfl) (by kernel_rfl) Ext.refl Ext.trans (by intro p hp; cases hp) ?_
      refine relMove Ext.refl rfl rfl rfl rfl _ (.inl rfl) (by conv => lhs; whnf) (by simp only [List.set_cons_succ, List.set_cons_zero]; rfl) ?_
      refine relMove Ext.refl rfl rfl rfl rfl _ (.inl rfl) (by conv => lhs; whnf) (by simp only [List.set_cons_succ, List.set_cons_zero]; rfl) ?_
      refine relPure Ext.refl rfl rfl rfl rfl (c := .pointer (some ⟨gS, k, none⟩)) (fun w _ => by have := k0; have := k1; go_simp; first | done | rfl) (by simp only [List.set_cons_succ, List.set_cons_zero]; rfl) ?_
      refine relPure Ext.refl rfl rfl rfl rfl (c := v) (fun w hw => by have := (a.below hw.drew).cell k _ hv.out; go_simp; first | done | rfl) (by simp only [List.set_cons_succ, List.set_cons_zero]; rfl) ?_
      refine relPure Ext.refl rfl rfl rfl rfl (c := .agg (hdc h).toArray) (fun w hw => exec_loadAv (aH.below hw.drew) _ _ rfl rfl _ 68 h68.out Tryd.underlying27 rfl (by kernel_rfl)) (by simp only [List.set_cons_succ, List.set_cons_zero]; rfl) ?_
      refine relCall1 rfl rfl rfl rfl (c := .tuple #[.int .i64 (-1), .int .i64 12]) 11 #[v, .agg (hdc h).toArray] (fun w => by go_simp) (fun w hw => (HAd.out w v (tz.below hw.drew) (ht.below (bwk.trans (hw.drew.mono bwk.size)))).mono ?_) (by simp only [List.set_cons_succ, List.set_cons_zero]; rfl) ?_
      · rintro e w' ⟨rfl, b⟩
        exact ⟨rfl, b⟩
      refine relMove Ext.refl rfl rfl rfl rfl _ (.inl rfl) (by conv => lhs; whnf) (by simp only [List.set_cons_succ, List.set_cons_zero]; rfl) ?_
      refine relPure Ext.refl rfl rfl rfl rfl (fun w _ => by go_simp; first | done | rfl) (by simp only [List.set_cons_succ, List.set_cons_zero]; rfl) ?_
      refine relPure Ext.refl rfl rfl rfl rfl (fun w _ => by go_simp; first | done | rfl) (by simp only [List.set_cons_succ, List.set_cons_zero]; rfl) ?_
      refine relMove Ext.refl rfl rfl rfl rfl _ (.inr rfl) (by conv => lhs; whnf) (by simp only [List.set_cons_succ, List.set_cons_zero]; rfl) ?_
      refine relMove Ext.refl rfl rfl rfl rfl _ (.inr rfl) (by conv => lhs; whnf) (by simp only [List.set_cons_succ, List.set_cons_zero]; rfl) ?_
      refine relEnd fun w7 hw7 => fill_end ?_
      have b7 := hw7.drew
      have tz7 := tz.below b7
      have a7 := a.below b7
      have aH7 := aH.below b7
      have bw7 := bwk.trans (b7.mono bwk.size)
      replace bk := bk.trans (b7.mono bk.size)
      have cS := a7.cell k _ hv.out
      clear tz a aH bwk b7 hw7
      go_upto_region 9 with (go_at_call 13; refine (HB.out _ v tz7).mono ?_; rintro e w8 ⟨rfl, b8⟩)
      have tz8 := tz7.below b8
      have a8 := a7.below b8
      have aH8 := aH7.below b8
      have bw8 := bw7.trans (b8.mono bw7.size)
      replace bk := bk.trans (b8.mono bk.size)
      clear tz7 a7 aH7 bw7 b8 cS
      have cS := a8.cell k _ hv.out
      go_upto_region 10 with (first
        | (go_at_call 14; refine (HNo.out _ v tz8).mono ?_; rintro e w9 ⟨rfl, b9⟩)
        | ((with_reducible refine wpList_storeF 41 ((Below.refl w9.heap.size w9).alloc (Nat.le_refl _) _) (heap_alloc_new _ _) (Nat.le_refl _) (ndc zeroNd) ?_ ?_ 106 ?_ ?_ ?_ ?_ ?_); rfl; rfl; exact z106.out; kernel_rfl; exact zcN_len; exact zone.out; intro wn an bn kn zn; clear kn; replace zn := Lib.hid zn))
      have b10 := b9.trans (bn.mono b9.size)
      have tz := tz8.below b10
      have a := a8.below b10
      have aH := aH8.below b10
      have bwk := bw8.trans (b10.mono bw8.size)
      replace bk := bk.trans (b10.mono bk.size)
      clear tz8 a8 aH8 bw8 b9 bn b10 an cS
      refine wp_region_rel [] Ext (by kernel_rfl) (by kernel_rfl) (by kernel_rfl) Ext.refl Ext.trans (by intro p hp; cases hp) ?_
      refine relMove Ext.refl rfl rfl rfl rfl _ (.inl rfl) (by conv => lhs; whnf) (by simp only [List.set_cons_succ, List.set_cons_zero]; rfl) ?_
      refine relMove Ext.refl rfl rfl rfl rfl _ (.inl rfl) (by conv => lhs; whnf) (by simp only [List.set_cons_succ, List.set_cons_zero]; rfl) ?_
      refine relPure Ext.refl rfl rfl rfl rfl (c := .pointer (some ⟨gS, k, none⟩)) (fun w _ => by have := k0; have := k1; go_simp; first | done | rfl) (by simp only [List.set_cons_succ, List.set_cons_zero]; rfl) ?_
      refine relPure Ext.refl rfl rfl rfl rfl (c := v) (fun w hw => by have := (a.below hw.drew).cell k _ hv.out; go_simp; first | done | rfl) (by simp only [List.set_cons_succ, List.set_cons_zero]; rfl) ?_
      refine relPure Ext.refl rfl rfl rfl rfl (c := .agg (hdc h).toArray) (fun w hw => exec_loadAv (aH.below hw.drew) _ _ rfl rfl _ 68 h68.out Tryd.underlying27 rfl (by kernel_rfl)) (by simp only [List.set_cons_succ, List.set_cons_zero]; rfl) ?_
      refine relCall1 rfl rfl rfl rfl (c := .agg (hcs X)) 18 #[.agg (hdc h).toArray] (fun w => by go_simp) (fun w hw => (HI.out w (ht.below (bwk.trans (hw.drew.mono bwk.size)))).mono ?_) (by simp only [List.set_cons_succ, List.set_cons_zero]; rfl) ?_
      · rintro e w' ⟨rfl, b⟩
        exact ⟨rfl, b⟩
      refine relCall1 rfl rfl rfl rfl (c := .tuple #[.int .i64 0, .bool false]) 12 #[v, .agg (hcs X)] (fun w => by go_simp) (fun w hw => (HF.out w v (tz.below hw.drew)).mono ?_) (by simp only [List.set_cons_succ, List.set_cons_zero]; rfl) ?_
      · rintro e w' ⟨rfl, b⟩
        exact ⟨rfl, b⟩
      refine relMove Ext.refl rfl rfl rfl rfl _ (.inl rfl) (by conv => lhs; whnf) (by simp only [List.set_cons_succ, List.set_cons_zero]; rfl) ?_
      refine relPure Ext.refl rfl rfl rfl rfl (fun w _ => by go_simp; first | done | rfl) (by simp only [List.set_cons_succ, List.set_cons_zero]; rfl) ?_
      refine relPure Ext.refl rfl rfl rfl rfl (fun w _ => by go_simp; first | done | rfl) (by simp only [List.set_cons_succ, List.set_cons_zero]; rfl) ?_
      refine relMove Ext.refl rfl rfl rfl rfl _ (.inr rfl) (by conv => lhs; whnf) (by simp only [List.set_cons_succ, List.set_cons_zero]; rfl) ?_
      refine relMove Ext.refl rfl rfl rfl rfl _ (.inr rfl) (by conv => lhs; whnf) (by simp only [List.set_cons_succ, List.set_cons_zero]; rfl) ?_
      refine relEnd fun w11 hw11 => fill_end ?_
      have b11 := hw11.drew
      have tz11 := tz.below b11
      have a11 := a.below b11
      have bw11 := bwk.trans (b11.mono bwk.size)
      replace bk := bk.trans (b11.mono bk.size)
      have cS := a11.cell k _ hv.out
      clear tz a aH bwk b11 hw11
      go_upto_region 12 with (go_at_call 22; refine (HCo.out _ v tz11).mono ?_; rintro e w12 ⟨rfl, b12⟩)
      have tz12 := tz11.below b12
      have a12 := a11.below b12
      have bw12 := bw11.trans (b12.mono bw11.size)
      replace bk := bk.trans (b12.mono bk.size)
      clear tz11 a11 bw11 b12 cS
      have cS := a12.cell k _ hv.out
      go_upto_region 6 with (first
        | (go_at_call 15; refine (HL.out _ v tz12).mono ?_; rintro e w13 ⟨rfl, rfl⟩)
        | (go_at_call 17; refine (HLi.out _ v tz12).mono ?_; rintro e w14 ⟨⟨_, rfl, Al, nl, cl, rfl, hll, _⟩, b14⟩; have cS2 := (a12.below b14).cell k _ hv.out; have hnl : nl = 0 := hll.symm; subst hnl)
        | (go_at_call 21; refine (HT.out _ v (tz12.below b14)).mono ?_; rintro e w15 ⟨⟨_, rfl, At, nt, ct, rfl, hlt2, _⟩, b15⟩; have hnt : nt = 0 := hlt2.symm; subst hnt))
      replace bk := bk.trans (b14.mono bk.size)
      replace bk := bk.trans (b15.mono bk.size)
      clear b14 b15 cS cS2 a12 tz12 bw12 hll hlt2
      go_wp2
      refine ⟨⟨k + 1, by omega, by go_num, bk⟩, ?_⟩
      simp [intOf]; omega
    · obtain rfl : k = 3 := by omega
      clear bk
      go_wp2
      go_ret
      exact ⟨rfl, bwk⟩
end Go.Proofs.YtijnkieakenipaaDoor
