/- florinref10.Branch, florinref10.Same; merkle.Branch where it refuses. -/
import Derived.Test.YtngindljhlbglaaDoorRk
import Derived.Test.YtngindljhlbglaaDoorBrq
import Derived.Test.YtngindljhlbglaaDoorSam
namespace Go.Proofs.YtngindljhlbglaaDoor
open Go.RowKit
set_option maxRecDepth 10000 in
set_option maxHeartbeats 1000000 in
theorem Branch_no (A0 : Option Addr) (m c0 : Nat) (i : Int) (h : i < 0 ∨ (m : Int) ≤ i) (w : World) :
    Calls Tryd.prog 16 #[.slice A0 m c0, .int .i64 i] w fun e w' => e = .returned (.tuple #[.slice none 0 0, .bool false]) ∧ Below w.heap.size w w' := by
  by_cases hi : i < 0
  · have t1 : decide (i < 0) = true := decide_eq_true hi
    go_enter Tryd.func16, Tryd.ntmps16
    go_wp2
    refine bodyPost_ret (results_tmp2 rfl _ _ _) rfl ⟨rfl, (Below.refl _ _).alloc (Nat.le_refl _) _⟩
  · have t1 : decide (i < 0) = false := decide_eq_false hi
    have t2 : decide ((m : Int) ≤ i) = true := decide_eq_true (by omega)
    go_enter Tryd.func16, Tryd.ntmps16
    go_wp2
    refine bodyPost_ret (results_tmp2 rfl _ _ _) rfl ⟨rfl, (Below.refl _ _).alloc (Nat.le_refl _) _⟩
set_option maxRecDepth 10000 in
set_option maxHeartbeats 1000000 in
theorem BranchR_no (l : List (List UInt8)) (h32 : All32 l) (A0 : Option Addr) (m c0 : Nat) (hm : l.length = m) (_ : m ≤ 4096) (i : Int) (h : i < 0 ∨ (m : Int) ≤ i) (w : World) (hr : Rd w A0 (hcl l)) :
    Calls Tryd.prog 19 #[.slice A0 m c0, .int .i64 i] w fun e w' => e = .returned (.tuple #[.slice none 0 0, .bool false]) ∧ Below w.heap.size w w' := by
  have HL := Lib.hid (LevelsR l h32 A0 m c0 hm w hr)
  have hq : (mLv l).length = 0 ∨ (0 < (mLv l).length ∧ 0 < m) := by
    rcases Nat.eq_zero_or_pos (mLv l).length with h0 | h0
    · exact .inl h0
    · refine .inr ⟨h0, ?_⟩
      rcases Nat.eq_zero_or_pos m with h1 | h1
      · rw [mLv, if_pos (.inl (by omega))] at h0; simp at h0
      · exact h1
  generalize (mLv l).length = q at *
  generalize mLv l = lv at *
  by_cases hi : i < 0
  · have t1 : decide (i < 0) = true := decide_eq_true hi
    go_enter Tryd.func19, Tryd.ntmps19
    go_wp2_with (go_at_call 21; refine HL.out.mono ?_; rintro e w2 ⟨v, ps, rfl, ob, -, -, b2⟩; obtain ⟨Av1, cv, rfl, hcv, _⟩ := own_form ob)
    refine bodyPost_ret (results_tmp2 rfl _ _ _) rfl ⟨rfl, b2⟩
  · have t1 : decide (i < 0) = false := decide_eq_false hi
    have t2 : decide ((m : Int) ≤ i) = true := decide_eq_true (by omega)
    rcases hq with rfl | ⟨hq, hm0⟩
    · go_enter Tryd.func19, Tryd.ntmps19
      go_wp2_with (go_at_call 21; refine HL.out.mono ?_; rintro e w2 ⟨v, ps, rfl, ob, -, -, b2⟩; obtain ⟨Av1, cv, rfl, hcv, _⟩ := own_form ob)
      refine bodyPost_ret (results_tmp2 rfl _ _ _) rfl ⟨rfl, b2⟩
    · have t0 : ((q : Int) == 0) = false := by simp; omega
      go_enter Tryd.func19, Tryd.ntmps19
      go_wp2_with (go_at_call 21; refine HL.out.mono ?_; rintro e w2 ⟨v, ps, rfl, ob, -, -, b2⟩; obtain ⟨Av1, cv, rfl, hcv, _⟩ := own_form ob)
      refine bodyPost_ret (results_tmp2 rfl _ _ _) rfl ⟨rfl, b2⟩
theorem rlv_place : ∀ (f : Nat) (l : List (List UInt8)) (h i : Nat) (x y : List (List UInt8)), (mLvF f l)[h]? = some x → (mLvF f l)[h + 1]? = some y → i < x.length → i / 2 < y.length := by
  intro f l h i x y hx hy hi
  obtain ⟨rfl, h1⟩ := rlv_next f l h x y hx hy
  rw [mUp_length]
  omega
set_option maxRecDepth 10000 in
set_option maxHeartbeats 2000000 in
theorem BranchR (l : List (List UInt8)) (h32 : All32 l) (A0 : Option Addr) (m c0 : Nat) (hm : l.length = m) (hm2 : m ≤ 4096) (i : Nat) (him : i < m) (w : World) (hr : Rd w A0 (hcl l)) :
    Calls Tryd.prog 19 #[.slice A0 m c0, .int .i64 (i : Int)] w fun e w' => ∃ v, e = .returned (.tuple #[v, .bool true]) ∧ w'.ownsRow w.heap.size 25 32 v (mBr (mLv l) i).length (hcl (mBr (mLv l) i)) ∧ Below w.heap.size w w' := by
  have HL := Lib.hid (LevelsR l h32 A0 m c0 hm w hr)
  have hlen13 := mLv_len l
  have hmem := Lib.hid (fun x hx => mLv_mem l h32 x hx)
  have hlv : mLv l = mLvF 12 l := by rw [mLv, if_neg (by omega)]
  have hnext := Lib.hid (fun h x y (hx : (mLv l)[h]? = some x) (hy : (mLv l)[h + 1]? = some y) => rlv_next 12 l h x y (by rw [← hlv]; exact hx) (by rw [← hlv]; exact hy))
  have hlast := Lib.hid (fun h x (hx : (mLv l)[h]? = some x) (hn : (mLv l).length = h + 1) => rlv_last 12 l h x (by omega) (by rw [← hlv]; exact hx) (by rw [← hlv]; exact hn))
  have hhead : (mLv l)[0]? = some l := by rw [hlv, rlv_head]
  clear hlv
  generalize mLv l = lv at *
  obtain ⟨q, hq⟩ : ∃ q, lv.length = q := ⟨_, rfl⟩
  obtain ⟨R, hR⟩ : ∃ R, R = mBr lv i := ⟨_, rfl⟩
  rw [← hR]
  rw [hq] at HL hlen13
  have q0 : 0 < q := by
    rw [← hq]; exact (List.getElem?_eq_some_iff.1 hhead).1
  have t0 : ((q : Int) == 0) = false := by simp; omega
  have t1 : decide ((i : Int) < 0) = false := by simp
  have t2 : decide ((m : Int) ≤ (i : Int)) = false := by simp; omega
  have t3 : decide (m ≤ i) = false := decide_eq_false (by omega)
  replace hq := Lib.hid hq
  replace hR := Lib.hid hR
  replace hm := Lib.hid hm
  go_enter Tryd.func19, Tryd.ntmps19
  go_wp2_with (go_at_call 21; refine HL.out.mono ?_; rintro e w2 ⟨v, ps, rfl, ob, lv2, -, b2⟩; obtain ⟨Av1, cv, rfl, hcv, _⟩ := own_form ob)
  obtain ⟨bb, off, rfl⟩ := (own_rd ob).someA (scl_neR ps lv lv2.1 (by rw [hq.out]; exact q0))
  have HX := Lib.hid (fun (h : Nat) (x : List (List UInt8)) (hx : lv[h]? = some x) w' (hE : Below w2.heap.size w2 w') => LvAt.cellOfR (own_rd (own_below ob hE)) (lv2.below hE) h x hx)
  clear lv2 ob HL
  go_loopw [1, 7, 8, 9] (fun p o s _ wr => ∃ (h I : Nat) (B : List (List UInt8)), h + 1 ≤ q ∧ s = .int .i64 (h : Int) ∧ p = .int .i64 (I : Int) ∧ B.length = h ∧ All32 B ∧ B ++ mBr (lv.drop h) I = R ∧ (∀ x, lv[h]? = some x → I < x.length) ∧ wr.ownsRow w2.heap.size 25 32 o h (hcl B) ∧ Below w2.heap.size w2 wr) (fun _ _ s _ _ => q - (intOf s).toNat)
  case atStart => exact ⟨0, i, [], by omega, rfl, rfl, rfl, fun x hx => (by cases hx), by rw [hR.out]; rfl, fun x hx => by rw [hhead] at hx; injection hx with hx; rw [← hx, hm.out]; exact him, World.ownsRow_nil _ _ _ _, Below.refl _ _⟩
  case round =>
    obtain ⟨h, I, B, hh, rfl, rfl, hB, hB32, hBR, hI, ho, bw⟩ := hrel
    obtain ⟨x, hx⟩ : ∃ x, lv[h]? = some x := ⟨_, List.getElem?_eq_getElem (by rw [hq.out]; omega)⟩
    obtain ⟨hx32, hx0, hx4⟩ := hmem.out x (List.mem_of_getElem? hx)
    have hdr : lv.drop h = x :: lv.drop (h + 1) := by
      obtain ⟨hl, hg⟩ := List.getElem?_eq_some_iff.1 hx
      rw [List.drop_eq_getElem_cons hl, hg]
    obtain ⟨Ao, co, rfl, hco, hcm⟩ := own_form ho
    by_cases hlt : h + 1 < q
    · have t4 : decide ((h : Int) < (q : Int) - 1) = true := by simp; omega
      obtain ⟨y, hy⟩ : ∃ y, lv[h + 1]? = some y := ⟨_, List.getElem?_eq_getElem (by rw [hq.out]; omega)⟩
      obtain ⟨hyu, hx1⟩ := hnext.out h x y hx hy
      have hIx := hI x hx
      have hIy : ∀ z, lv[h + 1]? = some z → I / 2 < z.length := fun z hz => by
        rw [hy] at hz; injection hz with hz
        rw [← hz, hyu, mUp_length]; omega
      rw [hdr, mBr, if_pos hx1] at hBR
      obtain ⟨nx, hnx⟩ : ∃ nx, x.length = nx := ⟨_, rfl⟩
      rw [hnx] at hBR hx0 hx1 hx4 hIx
      obtain ⟨j, hj⟩ : ∃ j, j = mPr I nx := ⟨_, rfl⟩
      rw [← hj] at hBR
      have hjn : j < nx := by rw [hj, mPr]; omega
      obtain ⟨z, hz⟩ : ∃ z, z = x.getD j [] := ⟨_, rfl⟩
      rw [← hz] at hBR
      have hz32 : z.length = 32 := by rw [hz]; exact hx32.get _ (by rw [hnx]; omega)
      obtain ⟨Ax, hAx⟩ : ∃ Ax, Ax = (ps.getD h (none, 0)).1 := ⟨_, rfl⟩
      obtain ⟨cx, hcx⟩ : ∃ cx, cx = (ps.getD h (none, 0)).2 := ⟨_, rfl⟩
      obtain ⟨c1, r1⟩ := HX.out h x hx wr bw
      rw [hnx, ← hAx, ← hcx] at c1
      rw [← hAx] at r1
      clear hAx hcx
      obtain ⟨bx, ox, rfl⟩ := r1.someA (hcl_ne hx32 (by rw [hnx]; exact hx0))
      have hrz := hz ▸ r1.hash hx32 j (by rw [hnx]; exact hjn)
      have hpr : mPr I nx = min (if I % 2 = 0 then I + 1 else I - 1) (nx - 1) := rfl
      rw [← hj] at hpr
      clear hj hz hx hy hyu hnx hdr r1 hI
      have e1 : IntKind.i64.wrap ((q : Int) - 1) = (q : Int) - 1 := by rw [IntKind.wrap_i64]; omega
      have n0 : 0 ≤ (h : Int) := by omega
      have n1 : (h : Int) < (q : Int) := by omega
      have m0 : 0 ≤ (j : Int) := by omega
      have m1 : (j : Int) < (nx : Int) := by omega
      have d1 : (I : Int) / 2 = ((I / 2 : Nat) : Int) := by omega
      have hle : (h + 1) * 32 ≤ 140737488355328 := by omega
      have hob := Lib.hid hBR
      clear hBR
      have hBo : B ++ [z] ++ mBr (lv.drop (h + 1)) (I / 2) = R := by rw [List.append_assoc]; exact hob.out
      obtain ⟨I2, hI2⟩ : ∃ I2, I / 2 = I2 := ⟨_, rfl⟩
      rw [hI2] at d1 hBo hIy
      clear hob
      replace hBo := Lib.hid hBo
      replace hIy := Lib.hid hIy
      have hrb : Rd (wr.alloc (.cells (z.map bv).toArray 25)) (some ⟨wr.heap.size, 0, none⟩) (hcl [z]) := by rw [hcl_one]; exact Av.rd (t := 25) (heap_alloc_new _ _)
      have hoA := own_below ho ((Below.refl wr.heap.size wr).alloc (Nat.le_refl _) (.cells (z.map bv).toArray 25))
      have hbA := bw.alloc bw.size (.cells (z.map bv).toArray 25)
      by_cases hev : I % 2 = 0
      · have t5 : (((I : Int) % 2) == 0) = true := by simp; omega
        rw [if_pos hev] at hpr
        have hjm : (if (nx : Int) - 1 < (I : Int) + 1 then (nx : Int) - 1 else (I : Int) + 1) = (j : Int) := by split <;> omega
        have hjm2 : min ((I : Int) + 1) ((nx : Int) - 1) = (j : Int) := by omega
        clear hpr
        go_wp2_with (first
          | (refine wpList_load_mid rfl _ _ rfl bx (ox + j * 32) rfl (z.map bv) _ hrz Tryd.underlying25 rfl (by rw [List.length_map, hz32]; kernel_rfl) ?_)
          | (refine wpList_execW rfl (exec_buildH z hz32 (.tmp 53) rfl rfl) ?_)
          | (at_builtin; refine wpList_appH hoA hbA hbA.size (All32.one hz32) 1 1 hrb rfl hle rfl (.tmp 46) (.tmp 54) rfl rfl rfl ?_; intro v3 w3 o3 b3 z3 _ _; obtain ⟨A3, c3, rfl, hc3, _⟩ := own_form o3))
        refine ⟨⟨h + 1, I2, B ++ [z], by omega, by go_num, rfl, by rw [List.length_append, hB]; rfl, hB32.append (All32.one hz32), hBo.out, hIy.out, o3, b3⟩, ?_⟩
        simp [intOf]; omega
      · have t5 : (((I : Int) % 2) == 0) = false := by simp; omega
        rw [if_neg hev] at hpr
        have e2 : IntKind.i64.wrap ((I : Int) - 1) = (j : Int) := by rw [IntKind.wrap_i64]; omega
        have e3 : (I : Int) - 1 = (j : Int) := by omega
        clear hpr
        go_wp2_with (first
          | (refine wpList_load_mid rfl _ _ rfl bx (ox + j * 32) rfl (z.map bv) _ hrz Tryd.underlying25 rfl (by rw [List.length_map, hz32]; kernel_rfl) ?_)
          | (refine wpList_execW rfl (exec_buildH z hz32 (.tmp 53) rfl rfl) ?_)
          | (at_builtin; refine wpList_appH hoA hbA hbA.size (All32.one hz32) 1 1 hrb rfl hle rfl (.tmp 46) (.tmp 54) rfl rfl rfl ?_; intro v3 w3 o3 b3 z3 _ _; obtain ⟨A3, c3, rfl, hc3, _⟩ := own_form o3))
        refine ⟨⟨h + 1, I2, B ++ [z], by omega, by go_num, rfl, by rw [List.length_append, hB]; rfl, hB32.append (All32.one hz32), hBo.out, hIy.out, o3, b3⟩, ?_⟩
        simp [intOf]; omega
    · obtain rfl : q = h + 1 := by omega
      have t4 : decide ((h : Int) < ((h + 1 : Nat) : Int) - 1) = false := by simp
      have hx1 := hlast.out h x hx hq.out
      have hRB : R = B := by
        rw [← hBR, hdr, List.drop_of_length_le (by rw [hq.out]; exact Nat.le_refl _), mBr, if_neg (by omega), mBr, List.append_nil]
      clear hdr hBR
      go_wp2
      refine bodyPost_ret (results_tmp2 rfl _ _ _) rfl ⟨_, rfl, ?_, b2.trans (bw.mono b2.size)⟩
      rw [hRB, hB]
      refine ⟨ho.1, ho.2.imp id ?_⟩
      rintro ⟨g, cap, cur, e1, e2, e3⟩
      exact ⟨g, cap, cur, e1, by have := b2.size; omega, e3⟩
set_option maxRecDepth 10000 in
set_option maxHeartbeats 2000000 in
theorem SameLvR (lv : List (List (List UInt8))) (hmem : ∀ x ∈ lv, All32 x ∧ 0 < x.length ∧ x.length ≤ 4096) (q : Nat) (hq : lv.length = q) (hq13 : q ≤ 13) (ps qs : List (Option Addr × Nat)) (A B : Option Addr) (ca cb : Nat) (w : World)
    (ra : Rd w A (scl ps lv)) (rb : Rd w B (scl qs lv)) (la : LvAt w ps lv) (lb : LvAt w qs lv) :
    Calls Tryd.prog 20 #[.slice A q ca, .slice B q cb] w fun e w' => e = .returned (.bool true) ∧ Below w.heap.size w w' := by
  have t0 : ((q : Int) != (q : Int)) = false := by simp
  replace hq := Lib.hid hq
  replace hmem := Lib.hid hmem
  go_enter Tryd.func20, Tryd.ntmps20
  go_wp2
  go_loopw [5] (fun i wr => ∃ h : Nat, h ≤ q ∧ i = .int .i64 (h : Int) ∧ Below w.heap.size w wr) (fun i _ => q - (intOf i).toNat)
  case atStart => exact ⟨0, by omega, rfl, Below.refl _ _⟩
  case round =>
    obtain ⟨h, hh, rfl, bw⟩ := hrel
    by_cases hlt : h < q
    · have t4 : decide ((h : Int) < (q : Int)) = true := by simp; omega
      obtain ⟨x, hx⟩ : ∃ x, lv[h]? = some x := ⟨_, List.getElem?_eq_getElem (by rw [hq.out]; exact hlt)⟩
      obtain ⟨hx32, hx0, hx4⟩ := hmem.out x (List.mem_of_getElem? hx)
      obtain ⟨ba, oa, rfl⟩ := ra.someA (scl_neR ps lv la.1 (by rw [hq.out]; omega))
      obtain ⟨bb, ob, rfl⟩ := rb.someA (scl_neR qs lv lb.1 (by rw [hq.out]; omega))
      obtain ⟨nx, hnx⟩ : ∃ nx, x.length = nx := ⟨_, rfl⟩
      obtain ⟨Ax, hAx⟩ : ∃ Ax, Ax = (ps.getD h (none, 0)).1 := ⟨_, rfl⟩
      obtain ⟨cx, hcx⟩ : ∃ cx, cx = (ps.getD h (none, 0)).2 := ⟨_, rfl⟩
      obtain ⟨Ay, hAy⟩ : ∃ Ax, Ax = (qs.getD h (none, 0)).1 := ⟨_, rfl⟩
      obtain ⟨cy, hcy⟩ : ∃ cx, cx = (qs.getD h (none, 0)).2 := ⟨_, rfl⟩
      have HA : ∀ w', Below w.heap.size w w' → w'.cell? ⟨ba, oa + h, none⟩ = some (.slice Ax nx cx) ∧ Rd w' Ax (hcl x) := fun w' hE => by
        have := LvAt.cellOfR (ra.below hE) (la.below hE) h x hx
        rw [hnx, ← hAx, ← hcx] at this
        exact this
      have HB : ∀ w', Below w.heap.size w w' → w'.cell? ⟨bb, ob + h, none⟩ = some (.slice Ay nx cy) ∧ Rd w' Ay (hcl x) := fun w' hE => by
        have := LvAt.cellOfR (rb.below hE) (lb.below hE) h x hx
        rw [hnx, ← hAy, ← hcy] at this
        exact this
      have HS := Lib.hid (fun w ra rb => SameH x x hx32 hx32 Ax Ay nx nx cx cy hnx hnx (by omega) (by omega) w ra rb)
      rw [beq_self_eq_true] at HS
      clear hx hAx hcx hAy hcy
      replace HA := Lib.hid HA
      replace HB := Lib.hid HB
      have n0 : 0 ≤ (h : Int) := by omega
      have n1 : (h : Int) < (q : Int) := by omega
      have H1 : ∀ w', Ext wr.drew w' → Below w.heap.size w w' := fun w' hE => bw.trans (hE.drew.mono bw.size)
      go_wp2_with fail
      refine wp_region_rel [] Ext (by kernel_rfl) (by kernel_rfl) (by kernel_rfl) Ext.refl Ext.trans (by intro p hp; cases hp) ?_
      refine relMove Ext.refl rfl rfl rfl rfl _ (.inl rfl) (by conv => lhs; whnf) (by simp only [List.set_cons_succ, List.set_cons_zero]; rfl) ?_
      refine relMove Ext.refl rfl rfl rfl rfl _ (.inl rfl) (by conv => lhs; whnf) (by simp only [List.set_cons_succ, List.set_cons_zero]; rfl) ?_
      refine relPure Ext.refl rfl rfl rfl rfl (fun w _ => by go_simp; first | done | rfl) (by simp only [List.set_cons_succ, List.set_cons_zero]; rfl) ?_
      refine relPure Ext.refl rfl rfl rfl rfl (c := .slice Ax nx cx) (fun w hw => by have := (HA.out w (H1 w hw)).1; go_simp; first | done | rfl) (by simp only [List.set_cons_succ, List.set_cons_zero]; rfl) ?_
      refine relMove Ext.refl rfl rfl rfl rfl _ (.inl rfl) (by conv => lhs; whnf) (by simp only [List.set_cons_succ, List.set_cons_zero]; rfl) ?_
      refine relMove Ext.refl rfl rfl rfl rfl _ (.inl rfl) (by conv => lhs; whnf) (by simp only [List.set_cons_succ, List.set_cons_zero]; rfl) ?_
      refine relPure Ext.refl rfl rfl rfl rfl (fun w _ => by go_simp; first | done | rfl) (by simp only [List.set_cons_succ, List.set_cons_zero]; rfl) ?_
      refine relPure Ext.refl rfl rfl rfl rfl (c := .slice Ay nx cy) (fun w hw => by have := (HB.out w (H1 w hw)).1; go_simp; first | done | rfl) (by simp only [List.set_cons_succ, List.set_cons_zero]; rfl) ?_
      refine relCall1 rfl rfl rfl rfl (c := .bool true) 15 #[.slice Ax nx cx, .slice Ay nx cy] (fun w => by go_simp) (fun w hw => (HS.out w (HA.out w (H1 w hw)).2 (HB.out w (H1 w hw)).2).mono fun _ _ h => h) (by simp only [List.set_cons_succ, List.set_cons_zero]; rfl) ?_
      refine relPure Ext.refl rfl rfl rfl rfl (c := .bool false) (fun w _ => by go_simp; first | done | rfl) (by simp only [List.set_cons_succ, List.set_cons_zero]; rfl) ?_
      refine relEnd fun w6 hw6 => fill_end ?_
      have b6 := H1 w6 hw6
      go_wp2
      refine ⟨⟨h + 1, by omega, by go_num, b6⟩, ?_⟩
      simp [intOf]; omega
    · obtain rfl : h = q := by omega
      have t4 : decide ((h : Int) < (h : Int)) = false := by simp
      go_wp2
      go_ret
      exact ⟨rfl, bw⟩
end Go.Proofs.YtngindljhlbglaaDoor
