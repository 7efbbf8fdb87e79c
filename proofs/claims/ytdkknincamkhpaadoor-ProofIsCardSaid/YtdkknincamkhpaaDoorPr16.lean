/- Rg; Rhw: put together for the claim. -/
import Derived.Test.YtdkknincamkhpaaDoorRf
import Derived.Test.YtdkknincamkhpaaDoorPr6
import Derived.Test.YtdkknincamkhpaaDoorPr7
/- florinref02: Sum, Double; florinref03.Pair. -/
namespace Go.Proofs.YtdkknincamkhpaaDoor
open Go.RowKit
attribute [local go_sem high] slB_lh slB_l slB_h nilB_eq
set_option maxRecDepth 10000 in
set_option maxHeartbeats 1000000 in
theorem SumR (bs : List UInt8) (B : Option Addr) (m c : Nat) (hm : bs.length = m) (hm2 : m ≤ 140737488355328) (w : World) (hr : Rd w B (bs.map bv)) :
    Calls Tryd.prog 38 #[.slice B m c] w fun e w' => e = .returned (.agg (hcs (sumB bs))) ∧ Below w.heap.size w w' := by
  have hz := zeros_32
  have hzl : (List.replicate 32 (0 : UInt8)).length = 32 := by simp
  obtain ⟨zs, hzs⟩ : ∃ zs : List UInt8, zs = List.replicate 32 0 := ⟨_, rfl⟩
  rw [← hzs] at hz hzl
  clear hzs
  replace hzl := Lib.hid hzl
  obtain ⟨ss, hss⟩ : ∃ l, l = sumB bs := ⟨_, rfl⟩
  have hsl : ss.length = 32 := by rw [hss, sumB_length]
  rw [← hss]
  replace hss := Lib.hid hss
  replace hsl := Lib.hid hsl
  replace hm := Lib.hid hm
  go_enter Tryd.func38, Tryd.ntmps38
  have hb0 := (Below.refl w.heap.size w).alloc (Nat.le_refl _) (.cells (zs.map bv).toArray 28)
  have ha2 : Av (w.alloc (.cells (zs.map bv).toArray 28)) w.heap.size 28 (zs.map bv) := heap_alloc_new _ _
  go_wp2_with fail
  generalize w.alloc (.cells (zs.map bv).toArray 28) = w0 at *
  refine (StartR w0).mono ?_
  rintro e w1 ⟨rfl, b1⟩
  replace ha2 := ha2.below b1
  replace b1 := hb0.trans (b1.mono hb0.size)
  have HW := WriteR shInit (by rw [shInit, ifill_length]) [] none 0 0 rfl (by omega) 0 (by omega) (by omega) rfl bs B m c hm.out (by omega) w1 (Rd.nil _ _) (hr.below b1)
  rw [List.nil_append, Nat.zero_add] at HW
  have e1 : IntKind.u64.wrap (0 + IntKind.u64.wrap (m : Int)) = (m : Int) := by rw [IntKind.wrap_u64, IntKind.wrap_u64]; omega
  rw [e1] at HW
  obtain ⟨h1, hh1⟩ : ∃ l, l = shFold (m / 64) shInit bs := ⟨_, rfl⟩
  have hl1 : h1.length = 8 := by rw [hh1, shFold_length _ _ _ (by rw [shInit, ifill_length])]
  rw [← hh1] at HW
  replace HW := Lib.hid HW
  replace hh1 := Lib.hid hh1
  replace hl1 := Lib.hid hl1
  clear e1 hb0
  go_wp2_with fail
  refine HW.out.mono ?_
  rintro e w2 ⟨A2, c2, rfl, hc2, hr2, b2⟩
  clear HW
  replace ha2 := ha2.below b2
  replace b2 := b1.trans (b2.mono b1.size)
  have HE := EndR h1 hl1.out (bs.drop (64 * (m / 64))) A2 (m % 64) c2 (by rw [List.length_drop, hm.out]; omega) (by omega) hc2 m (by omega) rfl w2 hr2
  rw [hh1.out] at HE
  have hss2 := hss.out
  rw [sumB, hm.out] at hss2
  rw [← hss2, ← hh1.out] at HE
  replace HE := Lib.hid HE
  clear hss2
  go_wp2_with fail
  refine HE.out.mono ?_
  rintro e w3 ⟨rfl, b3⟩
  clear HE
  replace ha2 := ha2.below b3
  replace b3 := b2.trans (b3.mono b2.size)
  go_wp2_with (refine wpList_storeAv b3 ha2 (Nat.le_refl _) rfl _ _ _ rfl rfl (ss.map bv) rfl 32 (by rw [List.length_map, hsl.out]) (by kernel_rfl) (by rw [List.size_toArray, List.length_map]; exact hzl.out) (by simp [Value.oneCell']) ?_
               intro w6 a6 b6 k6 z6)
  refine bodyPost_ret (results_cell_row rfl _ _ w.heap.size _ _ (0, 0) _ rfl a6 Tryd.underlying28 rfl (by rw [List.size_toArray, List.length_map, hsl.out]; kernel_rfl)) rfl ⟨rfl, b6⟩
set_option maxRecDepth 10000 in
set_option maxHeartbeats 1000000 in
theorem DoubleR (bs : List UInt8) (B : Option Addr) (m c : Nat) (hm : bs.length = m) (hm2 : m ≤ 140737488355328) (w : World) (hr : Rd w B (bs.map bv)) :
    Calls Tryd.prog 37 #[.slice B m c] w fun e w' => e = .returned (.agg (hcs (dblB bs))) ∧ Below w.heap.size w w' := by
  have hz := zeros_32
  have hzl : (List.replicate 32 (0 : UInt8)).length = 32 := by simp
  obtain ⟨zs, hzs⟩ : ∃ zs : List UInt8, zs = List.replicate 32 0 := ⟨_, rfl⟩
  rw [← hzs] at hz hzl
  clear hzs
  replace hzl := Lib.hid hzl
  obtain ⟨ss, hss⟩ : ∃ l, l = sumB bs := ⟨_, rfl⟩
  have hsl : ss.length = 32 := by rw [hss, sumB_length]
  rw [dblB, ← hss]
  obtain ⟨dd, hdd⟩ : ∃ l, l = sumB ss := ⟨_, rfl⟩
  have hdl : dd.length = 32 := by rw [hdd, sumB_length]
  rw [← hdd]
  replace hss := Lib.hid hss
  replace hsl := Lib.hid hsl
  replace hdd := Lib.hid hdd
  replace hdl := Lib.hid hdl
  replace hm := Lib.hid hm
  go_enter Tryd.func37, Tryd.ntmps37
  have hb0 := (Below.refl w.heap.size w).alloc (Nat.le_refl _) (.cells (zs.map bv).toArray 28)
  have ha2 : Av (w.alloc (.cells (zs.map bv).toArray 28)) w.heap.size 28 (zs.map bv) := heap_alloc_new _ _
  go_wp2_with fail
  generalize w.alloc (.cells (zs.map bv).toArray 28) = w0 at *
  refine (SumR bs B m c hm.out hm2 w0 (hr.below hb0)).mono ?_
  rintro e w1 ⟨rfl, b1⟩
  rw [← hss.out]
  replace ha2 := ha2.below b1
  replace b1 := hb0.trans (b1.mono hb0.size)
  have q1 := Lib.hid ha2.lt
  go_wp2_with (refine wpList_storeAv (b1.alloc b1.size _) (heap_alloc_new _ _) b1.size rfl _ _ _ rfl rfl (ss.map bv) rfl 32 (by rw [List.length_map, hsl.out]) (by kernel_rfl) (by rw [List.size_toArray, List.length_map]; exact hzl.out) (by simp [Value.oneCell']) ?_
               intro w2 a3 b2 k2 z2
               replace z2 := Lib.hid z2
               replace ha2 := (ha2.alloc (.cells (zs.map bv).toArray 28)).same (k2 _ (Nat.ne_of_lt q1.out)))
  refine (SumR ss _ 32 32 hsl.out (by omega) w2 a3.rd).mono ?_
  rintro e w3 ⟨rfl, b3⟩
  rw [← hdd.out]
  replace ha2 := ha2.below b3
  replace b3 := b2.trans (b3.mono b2.size)
  go_wp2_with (refine wpList_storeAv b3 ha2 (Nat.le_refl _) rfl _ _ _ rfl rfl (dd.map bv) rfl 32 (by rw [List.length_map, hdl.out]) (by kernel_rfl) (by rw [List.size_toArray, List.length_map]; exact hzl.out) (by simp [Value.oneCell']) ?_
               intro w6 a6 b6 k6 z6)
  refine bodyPost_ret (results_cell_row rfl _ _ w.heap.size _ _ (0, 0) _ rfl a6 Tryd.underlying28 rfl (by rw [List.size_toArray, List.length_map, hdl.out]; kernel_rfl)) rfl ⟨rfl, b6⟩
set_option maxRecDepth 10000 in
set_option maxHeartbeats 1000000 in
theorem PairR (a b : List UInt8) (ha : a.length = 32) (hb : b.length = 32) (w : World) :
    Calls Tryd.prog 51 #[.agg (hcs a), .agg (hcs b)] w fun e w' => e = .returned (.agg (hcs (pairB a b))) ∧ Below w.heap.size w w' := by
  have hz := zeros_32
  have hzl : (List.replicate 32 (0 : UInt8)).length = 32 := by simp
  obtain ⟨zs, hzs⟩ : ∃ zs : List UInt8, zs = List.replicate 32 0 := ⟨_, rfl⟩
  rw [← hzs] at hz hzl
  clear hzs
  replace hzl := Lib.hid hzl
  obtain ⟨dd, hdd⟩ : ∃ l, l = dblB (a ++ b) := ⟨_, rfl⟩
  have hdl : dd.length = 32 := by rw [hdd, dblB_length]
  rw [pairB, ← hdd]
  replace hdd := Lib.hid hdd
  replace hdl := Lib.hid hdl
  replace ha := Lib.hid ha
  replace hb := Lib.hid hb
  have hle1 : ([] : List UInt8).length + 32 ≤ 140737488355328 := by simp
  have hle2 : a.length + 32 ≤ 140737488355328 := by rw [ha.out]; omega
  go_enter Tryd.func51, Tryd.ntmps51
  have b0 : Below w.heap.size w (((w.alloc (.cells (a.map bv).toArray 28)).alloc (.cells (b.map bv).toArray 28)).alloc (.cells (zs.map bv).toArray 28)) := (((Below.refl _ _).alloc (Nat.le_refl _) _).alloc (by simp) _).alloc (by simp; omega) _
  have a0 : Av (((w.alloc (.cells (a.map bv).toArray 28)).alloc (.cells (b.map bv).toArray 28)).alloc (.cells (zs.map bv).toArray 28)) w.heap.size 28 (a.map bv) := Av.alloc (heap_alloc2_old _ _ _) _
  have a1 : Av (((w.alloc (.cells (a.map bv).toArray 28)).alloc (.cells (b.map bv).toArray 28)).alloc (.cells (zs.map bv).toArray 28)) (w.heap.size + 1) 28 (b.map bv) := Av.alloc (heap_alloc2_new _ _ _) _
  have a2 : Av (((w.alloc (.cells (a.map bv).toArray 28)).alloc (.cells (b.map bv).toArray 28)).alloc (.cells (zs.map bv).toArray 28)) (w.heap.size + 1 + 1) 28 (zs.map bv) := by
    have := heap_alloc_new ((w.alloc (.cells (a.map bv).toArray 28)).alloc (.cells (b.map bv).toArray 28)) (.cells (zs.map bv).toArray 28)
    have e : ∀ (v : World) (o : Obj), (v.alloc o).heap.size = v.heap.size + 1 := fun v o => by simp
    rw [e, e] at this
    exact this
  go_upto_region 1 with fail
  generalize ((w.alloc (.cells (a.map bv).toArray 28)).alloc (.cells (b.map bv).toArray 28)).alloc (.cells (zs.map bv).toArray 28) = w0 at *
  have hmade := OwnB.made w0 w0.heap.size (Nat.le_refl _) #[] 0 (by simp only [maxLen]; omega) rfl
  have hbm := (Below.refl w0.heap.size w0).alloc (Nat.le_refl _) (.cells #[] 5)
  have hr0 := a0.rd.below hbm
  go_wp2_with (first
    | (at_builtin
       refine wpList_appB hmade hbm hbm.size 32 32 hr0 ha.out hle1 rfl (.tmp 6) (.tmp 7) rfl rfl rfl ?_
       intro y1 w1 hown hb1 hz1 hg1
       rw [List.nil_append] at hown
       have hr1 := a1.rd.below hb1)
    | (at_builtin
       refine wpList_appB hown hb1 hb1.size 32 32 hr1 hb.out hle2 rfl (.tmp 9) (.tmp 10) rfl rfl rfl ?_
       intro y2 w2 hown2 hb2 hz2 hg2
       obtain ⟨A2, c2, rfl, hc2, _⟩ := hown2.formN 64 (by rw [List.length_append, ha.out, hb.out])))
  replace a2 := a2.below hb2
  replace b0 := b0.trans (hb2.mono b0.size)
  refine (DoubleR (a ++ b) A2 64 c2 (by rw [List.length_append, ha.out, hb.out]) (by omega) w2 hown2.rd).mono ?_
  rintro e w3 ⟨rfl, b3⟩
  rw [← hdd.out]
  replace a2 := a2.below b3
  replace b3 := b0.trans (b3.mono b0.size)
  go_wp2_with (refine wpList_storeAv b3 a2 (by omega) rfl _ _ _ rfl rfl (dd.map bv) rfl 32 (by rw [List.length_map, hdl.out]) (by kernel_rfl) (by rw [List.size_toArray, List.length_map]; exact hzl.out) (by simp [Value.oneCell']) ?_
               intro w6 a6 b6 k6 z6)
  refine bodyPost_ret (results_cell_row rfl _ _ (w.heap.size + 1 + 1) _ _ (0, 0) _ rfl a6 Tryd.underlying28 rfl (by rw [List.size_toArray, List.length_map, hdl.out]; kernel_rfl)) rfl ⟨rfl, b6⟩
end Go.Proofs.YtdkknincamkhpaaDoor
/- florinref10: Width, Height. -/
namespace Go.Proofs.YtdkknincamkhpaaDoor
open Go.RowKit
theorem pow_le12 : ∀ k : Nat, k ≤ 12 → 1 ≤ (2 : Int) ^ k ∧ (2 : Int) ^ k ≤ 4096 := by decide
theorem WidthR (n ht : Int) (w : World) : Calls Tryd.prog 50 #[.int .i64 n, .int .i64 ht] w fun e w' => e = .returned (.int .i64 (mWidth n ht)) ∧ w' = w := by
  by_cases hh : ht < 0
  · go_enter Tryd.func50, Tryd.ntmps50
    go_wp2
    go_ret
    exact ⟨by rw [mWidth, if_pos hh]; rfl, rfl⟩
  · have h0 : 0 ≤ ht := by omega
    obtain ⟨M, hM⟩ : ∃ M, M = min (max n 0) 4096 := ⟨_, rfl⟩
    have hM0 : 0 ≤ M := by omega
    have hM1 : M ≤ 4096 := by omega
    obtain ⟨V, hV⟩ : ∃ V, V = mWidth n ht := ⟨_, rfl⟩
    have hVk : ∀ k : Nat, (min ht 12).toNat = k → V = (M + 2 ^ k - 1) / 2 ^ k := fun k hk => by rw [hV, mWidth, if_neg hh, hk, hM]
    rw [← hV]
    clear hV hh
    replace hVk := Lib.hid hVk
    rcases (show n < 0 ∨ (0 ≤ n ∧ n ≤ 4096) ∨ 4096 < n by omega) with hn | hn | hn <;>
    · go_enter Tryd.func50, Tryd.ntmps50
      go_wp2
      all_goals try (exfalso; omega)
      all_goals
        go_loopw [5, 6] (fun p i wr => ∃ (k : Nat) (P : Int), Hid (P = 2 ^ k) ∧ k ≤ 12 ∧ (k : Int) ≤ ht ∧ p = .int .i64 P ∧ i = .int .i64 (k : Int) ∧ wr = w) (fun _ i _ => 12 - (intOf i).toNat)
        case atStart => exact ⟨0, 1, Lib.hid (by decide), by omega, by omega, rfl, rfl, rfl⟩
        case round =>
          obtain ⟨k, P, hP, hk, hkh, rfl, rfl, rfl⟩ := hrel
          have hpb := pow_le12 k hk
          rw [← hP.out] at hpb
          by_cases hlt : (k : Int) < ht ∧ k < 12
          · have t1 : decide ((k : Int) < ht) = true := decide_eq_true hlt.1
            have t2 : decide ((k : Int) < 12) = true := decide_eq_true (by omega)
            have hpb2 := pow_le12 (k + 1) (by omega)
            rw [Int.pow_succ, ← hP.out] at hpb2
            go_wp2
            refine ⟨⟨k + 1, P * 2, Lib.hid (by rw [Int.pow_succ, hP.out]), by omega, by omega, rfl, rfl, trivial⟩, ?_⟩
            simp [intOf]; omega
          · have hv := Lib.hid (hVk.out k (by omega))
            rw [← hP.out] at hv
            have hP0 : (P == 0) = false := by simp; omega
            have hP1 : P ≠ 0 := by omega
            by_cases hl : (k : Int) < ht
            · have t1 : decide ((k : Int) < ht) = true := decide_eq_true hl
              have t2 : decide ((k : Int) < 12) = false := decide_eq_false (by omega)
              go_wp2
              go_ret
              refine ⟨congrArg (fun x => Ending.returned (Value.int IntKind.i64 x)) ?_, rfl⟩
              rw [hv.out]
              congr 1
              omega
            · have t1 : decide ((k : Int) < ht) = false := decide_eq_false hl
              go_wp2
              go_ret
              refine ⟨congrArg (fun x => Ending.returned (Value.int IntKind.i64 x)) ?_, rfl⟩
              rw [hv.out]
              congr 1
              omega
theorem HeightR (n : Int) (k : Nat) (h12 : k ≤ 12) (hlo : ∀ j : Nat, j < k → 1 < mWidth n j) (hhi : mWidth n k ≤ 1) (w : World) : Calls Tryd.prog 35 #[.int .i64 n] w fun e w' => e = .returned (.int .i64 (k : Int)) ∧ w' = w := by
  have HW := Lib.hid (fun (h : Int) w => WidthR n h w)
  go_enter Tryd.func35, Tryd.ntmps35
  go_wp2
  go_loopw [3] (fun i wr => ∃ j : Nat, j ≤ k ∧ i = .int .i64 (j : Int) ∧ wr = w) (fun i _ => k - (intOf i).toNat)
  case atStart => exact ⟨0, by omega, rfl, rfl⟩
  case round =>
    obtain ⟨j, hj, rfl, rfl⟩ := hrel
    by_cases hjk : j < k
    · have h1 := hlo j hjk
      have h2 : decide (1 < mWidth n j) = true := by simpa using h1
      go_wp2_with (go_at_call 50; refine (HW.out _ _).mono ?_; rintro e w' ⟨rfl, rfl⟩)
      refine ⟨⟨j + 1, by omega, by go_num, trivial⟩, ?_⟩
      simp [intOf]; omega
    · obtain rfl : j = k := by omega
      have h2 : decide (1 < mWidth n j) = false := by simp; omega
      go_wp2_with (go_at_call 50; refine (HW.out _ _).mono ?_; rintro e w' ⟨rfl, rfl⟩)
      go_ret
      exact ⟨rfl, rfl⟩
end Go.Proofs.YtdkknincamkhpaaDoor
