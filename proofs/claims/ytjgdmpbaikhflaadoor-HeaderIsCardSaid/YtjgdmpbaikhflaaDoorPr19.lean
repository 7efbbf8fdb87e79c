/- Rgs; Yc; CRp: put together for the claim. -/
import Derived.Test.YtjgdmpbaikhflaaDoorRf
import Derived.Test.YtjgdmpbaikhflaaDoorPr6
import Derived.Test.YtjgdmpbaikhflaaDoorPr8
import Derived.Test.YtjgdmpbaikhflaaDoorPr17
import Derived.Test.YtjgdmpbaikhflaaDoorPr9
import Derived.Test.YtjgdmpbaikhflaaDoorPr4
/- florinref02: Sum, Double; florinref03.Pair. -/
namespace Go.Proofs.YtjgdmpbaikhflaaDoor
open Go.RowKit
attribute [local go_sem high] slB_lh slB_l slB_h nilB_eq
set_option maxRecDepth 10000 in
set_option maxHeartbeats 1000000 in
theorem SumR (bs : List UInt8) (B : Option Addr) (m c : Nat) (hm : bs.length = m) (hm2 : m ≤ 140737488355328) (w : World) (hr : Rd w B (bs.map bv)) :
    Calls Tryd.prog 55 #[.slice B m c] w fun e w' => e = .returned (.agg (hcs (sumB bs))) ∧ Below w.heap.size w w' := by
  have hz := zeros_32
  have hzl : (List.replicate 32 (0 : UInt8)).length = 32 := by simp
  obtain ⟨zs, hzs⟩ : ∃ zs : List UInt8, zs = List.replicate 32 0 := ⟨_, rfl⟩
  rw [← hzs] at hz hzl
  clear hzs
  replace hzl := Lib.hid hzl
  obtain ⟨ss, hss⟩ : ∃ l, l = sumB bs := ⟨_, rfl⟩
  have hsl : ss.length = 32 := by rw [hss, sumB_length]
  rw [← hss]
  replace hss := Lib.hid hss
  replace hsl := Lib.hid hsl
  replace hm := Lib.hid hm
  go_enter Tryd.func55, Tryd.ntmps55
  have hb0 := (Below.refl w.heap.size w).alloc (Nat.le_refl _) (.cells (zs.map bv).toArray 24)
  have ha2 : Av (w.alloc (.cells (zs.map bv).toArray 24)) w.heap.size 24 (zs.map bv) := heap_alloc_new _ _
  go_wp2_with fail
  generalize w.alloc (.cells (zs.map bv).toArray 24) = w0 at *
  refine (StartR w0).mono ?_
  rintro e w1 ⟨rfl, b1⟩
  replace ha2 := ha2.below b1
  replace b1 := hb0.trans (b1.mono hb0.size)
  have HW := WriteR shInit (by rw [shInit, ifill_length]) [] none 0 0 rfl (by omega) 0 (by omega) (by omega) rfl bs B m c hm.out (by omega) w1 (Rd.nil _ _) (hr.below b1)
  rw [List.nil_append, Nat.zero_add] at HW
  have e1 : IntKind.u64.wrap (0 + IntKind.u64.wrap (m : Int)) = (m : Int) := by rw [IntKind.wrap_u64, IntKind.wrap_u64]; omega
  rw [e1] at HW
  obtain ⟨h1, hh1⟩ : ∃ l, l = shFold (m / 64) shInit bs := ⟨_, rfl⟩
  have hl1 : h1.length = 8 := by rw [hh1, shFold_length _ _ _ (by rw [shInit, ifill_length])]
  rw [← hh1] at HW
  replace HW := Lib.hid HW
  replace hh1 := Lib.hid hh1
  replace hl1 := Lib.hid hl1
  clear e1 hb0
  go_wp2_with fail
  refine HW.out.mono ?_
  rintro e w2 ⟨A2, c2, rfl, hc2, hr2, b2⟩
  clear HW
  replace ha2 := ha2.below b2
  replace b2 := b1.trans (b2.mono b1.size)
  have HE := EndR h1 hl1.out (bs.drop (64 * (m / 64))) A2 (m % 64) c2 (by rw [List.length_drop, hm.out]; omega) (by omega) hc2 m (by omega) rfl w2 hr2
  rw [hh1.out] at HE
  have hss2 := hss.out
  rw [sumB, hm.out] at hss2
  rw [← hss2, ← hh1.out] at HE
  replace HE := Lib.hid HE
  clear hss2
  go_wp2_with fail
  refine HE.out.mono ?_
  rintro e w3 ⟨rfl, b3⟩
  clear HE
  replace ha2 := ha2.below b3
  replace b3 := b2.trans (b3.mono b2.size)
  go_wp2_with (refine wpList_storeAv b3 ha2 (Nat.le_refl _) rfl _ _ _ rfl rfl (ss.map bv) rfl 32 (by rw [List.length_map, hsl.out]) (by kernel_rfl) (by rw [List.size_toArray, List.length_map]; exact hzl.out) (by simp [Value.oneCell']) ?_
               intro w6 a6 b6 k6 z6)
  refine bodyPost_ret (results_cell_row rfl _ _ w.heap.size _ _ (0, 0) _ rfl a6 Tryd.underlying24 rfl (by rw [List.size_toArray, List.length_map, hsl.out]; kernel_rfl)) rfl ⟨rfl, b6⟩
set_option maxRecDepth 10000 in
set_option maxHeartbeats 1000000 in
theorem DoubleR (bs : List UInt8) (B : Option Addr) (m c : Nat) (hm : bs.length = m) (hm2 : m ≤ 140737488355328) (w : World) (hr : Rd w B (bs.map bv)) :
    Calls Tryd.prog 40 #[.slice B m c] w fun e w' => e = .returned (.agg (hcs (dblB bs))) ∧ Below w.heap.size w w' := by
  have hz := zeros_32
  have hzl : (List.replicate 32 (0 : UInt8)).length = 32 := by simp
  obtain ⟨zs, hzs⟩ : ∃ zs : List UInt8, zs = List.replicate 32 0 := ⟨_, rfl⟩
  rw [← hzs] at hz hzl
  clear hzs
  replace hzl := Lib.hid hzl
  obtain ⟨ss, hss⟩ : ∃ l, l = sumB bs := ⟨_, rfl⟩
  have hsl : ss.length = 32 := by rw [hss, sumB_length]
  rw [dblB, ← hss]
  obtain ⟨dd, hdd⟩ : ∃ l, l = sumB ss := ⟨_, rfl⟩
  have hdl : dd.length = 32 := by rw [hdd, sumB_length]
  rw [← hdd]
  replace hss := Lib.hid hss
  replace hsl := Lib.hid hsl
  replace hdd := Lib.hid hdd
  replace hdl := Lib.hid hdl
  replace hm := Lib.hid hm
  go_enter Tryd.func40, Tryd.ntmps40
  have hb0 := (Below.refl w.heap.size w).alloc (Nat.le_refl _) (.cells (zs.map bv).toArray 24)
  have ha2 : Av (w.alloc (.cells (zs.map bv).toArray 24)) w.heap.size 24 (zs.map bv) := heap_alloc_new _ _
  go_wp2_with fail
  generalize w.alloc (.cells (zs.map bv).toArray 24) = w0 at *
  refine (SumR bs B m c hm.out hm2 w0 (hr.below hb0)).mono ?_
  rintro e w1 ⟨rfl, b1⟩
  rw [← hss.out]
  replace ha2 := ha2.below b1
  replace b1 := hb0.trans (b1.mono hb0.size)
  have q1 := Lib.hid ha2.lt
  go_wp2_with (refine wpList_storeAv (b1.alloc b1.size _) (heap_alloc_new _ _) b1.size rfl _ _ _ rfl rfl (ss.map bv) rfl 32 (by rw [List.length_map, hsl.out]) (by kernel_rfl) (by rw [List.size_toArray, List.length_map]; exact hzl.out) (by simp [Value.oneCell']) ?_
               intro w2 a3 b2 k2 z2
               replace z2 := Lib.hid z2
               replace ha2 := (ha2.alloc (.cells (zs.map bv).toArray 24)).same (k2 _ (Nat.ne_of_lt q1.out)))
  refine (SumR ss _ 32 32 hsl.out (by omega) w2 a3.rd).mono ?_
  rintro e w3 ⟨rfl, b3⟩
  rw [← hdd.out]
  replace ha2 := ha2.below b3
  replace b3 := b2.trans (b3.mono b2.size)
  go_wp2_with (refine wpList_storeAv b3 ha2 (Nat.le_refl _) rfl _ _ _ rfl rfl (dd.map bv) rfl 32 (by rw [List.length_map, hdl.out]) (by kernel_rfl) (by rw [List.size_toArray, List.length_map]; exact hzl.out) (by simp [Value.oneCell']) ?_
               intro w6 a6 b6 k6 z6)
  refine bodyPost_ret (results_cell_row rfl _ _ w.heap.size _ _ (0, 0) _ rfl a6 Tryd.underlying24 rfl (by rw [List.size_toArray, List.length_map, hdl.out]; kernel_rfl)) rfl ⟨rfl, b6⟩
end Go.Proofs.YtjgdmpbaikhflaaDoor
/- florinref07.Put, Id. -/
namespace Go.Proofs.YtjgdmpbaikhflaaDoor
open Go.RowKit
set_option maxRecDepth 100000 in
set_option maxHeartbeats 4000000 in
theorem RPut7 (h : Hd) (k : h.ok) (w : World) :
    Calls Tryd.prog 24 #[.agg (hdc h).toArray] w fun e w' => (∃ A c, e = .returned (.slice A 80 c) ∧ OwnB w' w.heap.size (.slice A 80 c) (hdB h)) ∧ Below w.heap.size w w' := by
  have HF := fun (n : Nat) (hn : n < 4294967296) (w : World) => RFour n hn w
  obtain ⟨c0, c3, c4, c5⟩ := hdc_at k
  obtain ⟨W, hW⟩ : ∃ W, W = w.alloc (.cells (hdc h).toArray 26) := ⟨_, rfl⟩
  obtain ⟨H, hH⟩ : ∃ H, H = w.heap.size := ⟨_, rfl⟩
  have aW : Av W H 26 (hdc h) := by rw [hW, hH]; exact heap_alloc_new _ _
  have bW : Below H w W := by rw [hW, hH]; exact (Below.refl _ _).alloc (Nat.le_refl _) _
  have sW : W.heap.size = H + 1 := by rw [hW, hH]; simp
  have q1 := k.2.1
  have q2 := k.2.2.1
  have hB80 := hdB_length k
  have hres : Cm.lo 4 h.ver ++ h.prev ++ h.root ++ Cm.lo 4 h.time ++ Cm.lo 4 h.bits ++ Cm.lo 4 h.nonce = hdB h := by simp [hdB]
  obtain ⟨V, hV⟩ : ∃ V, V = hdB h := ⟨_, rfl⟩
  rw [← hV] at hres hB80 ⊢
  have hN : ∃ n0 n3 n4 n5 : Nat, h.ver = n0 ∧ h.time = n3 ∧ h.bits = n4 ∧ h.nonce = n5 := ⟨_, _, _, _, rfl, rfl, rfl, rfl⟩
  obtain ⟨n0, n3, n4, n5, e0, e3, e4, e5⟩ := hN
  have F0 := Lib.hid (fun w => HF n0 (by have := k.1; omega) w)
  have F3 := Lib.hid (fun w => HF n3 (by have := k.2.2.2.1; omega) w)
  have F4 := Lib.hid (fun w => HF n4 (by have := k.2.2.2.2.1; omega) w)
  have F5 := Lib.hid (fun w => HF n5 (by have := k.2.2.2.2.2; omega) w)
  clear HF
  rw [e0] at c0 hres
  rw [e3] at c3 hres
  rw [e4] at c4 hres
  rw [e5] at c5 hres
  have d0 := aW.cell 0 _ c0
  have p1 := rd_of_range (Av.hd_prev aW)
  have p2 := rd_of_range (Av.hd_root k aW)
  clear e0 e3 e4 e5 c0
  replace hV := Lib.hid hV
  replace hW := Lib.hid hW
  replace hH := Lib.hid hH
  replace sW := Lib.hid sW
  replace hres := Lib.hid hres
  replace hB80 := Lib.hid hB80
  replace q1 := Lib.hid q1
  replace q2 := Lib.hid q2
  replace c3 := Lib.hid c3
  replace c4 := Lib.hid c4
  replace c5 := Lib.hid c5
  go_enter Tryd.func24, Tryd.ntmps24
  go_upto_region 1 with fail
  rw [← hW.out, ← hH.out]
  go_upto_region 2 with (go_at_call 39; refine (F0.out W).mono ?_; rintro e w1 ⟨⟨A1, c1, rfl, o1⟩, b1⟩)
  have p1' := p1.below b1
  have p2' := p2.below b1
  go_upto_region 3 with (at_builtin; refine wpList_appB o1 b1 b1.size 32 32 p1' q1.out (by simp only [Cm.lo_length]; omega) rfl (.tmp 7) (.tmp 9) rfl rfl rfl ?_; intro v2 w2 o2 b2 _ _)
  have p2'' := p2.below b2
  go_upto_region 4 with (at_builtin; refine wpList_appB o2 b2 b2.size 32 32 p2'' q2.out (by simp only [List.length_append, Cm.lo_length, q1.out]; omega) rfl (.tmp 11) (.tmp 13) rfl rfl rfl ?_; intro v3 w3 o3 b3 _ _)
  have d3 := (aW.below b3).cell 65 _ c3.out
  go_upto_region 5 with (first
    | (go_at_call 39; refine (F3.out w3).mono ?_; rintro e w4 ⟨⟨A4, c4', rfl, r4⟩, b4⟩; have o4 := o3.below b4; have bb4 := b3.trans (b4.mono b3.size))
    | (at_builtin; refine wpList_appB o4 bb4 bb4.size 4 c4' r4.rd (Cm.lo_length _ _) (by simp only [List.length_append, Cm.lo_length, q1.out, q2.out]; omega) rfl (.tmp 15) (.tmp 18) rfl rfl rfl ?_; intro v5 w5 o5 b5 _ _))
  have d4 := (aW.below b5).cell 66 _ c4.out
  go_upto_region 6 with (first
    | (go_at_call 39; refine (F4.out w5).mono ?_; rintro e w6 ⟨⟨A6, c6', rfl, r6⟩, b6⟩; have o6 := o5.below b6; have bb6 := b5.trans (b6.mono b5.size))
    | (at_builtin; refine wpList_appB o6 bb6 bb6.size 4 c6' r6.rd (Cm.lo_length _ _) (by simp only [List.length_append, Cm.lo_length, q1.out, q2.out]; omega) rfl (.tmp 20) (.tmp 23) rfl rfl rfl ?_; intro v7 w7 o7 b7 _ _))
  have d5 := (aW.below b7).cell 67 _ c5.out
  go_wp2_with (first
    | (go_at_call 39; refine (F5.out w7).mono ?_; rintro e w8 ⟨⟨A8, c8', rfl, r8⟩, b8⟩; have o8 := o7.below b8; have bb8 := b7.trans (b8.mono b7.size))
    | (at_builtin; refine wpList_appB o8 bb8 bb8.size 4 c8' r8.rd (Cm.lo_length _ _) (by simp only [List.length_append, Cm.lo_length, q1.out, q2.out]; omega) rfl (.tmp 25) (.tmp 28) rfl rfl rfl ?_; intro v9 w9 o9 b9 _ _))
  rw [hres.out] at o9
  obtain ⟨A9, c9, rfl, _⟩ := o9.formN 80 hB80.out
  go_ret
  have e9 : H ≤ W.heap.size := by rw [sW.out]; omega
  rw [← hH.out]
  exact ⟨⟨A9, c9, rfl, o9.low e9⟩, bW.trans (b9.mono e9)⟩
set_option maxRecDepth 100000 in
set_option maxHeartbeats 2000000 in
theorem RId7 (h : Hd) (k : h.ok) (w : World) :
    Calls Tryd.prog 25 #[.agg (hdc h).toArray] w fun e w' => e = .returned (.agg (hcs (hdId h))) ∧ Below w.heap.size w w' := by
  have HP := RPut7 h k
  have HD := fun (w : World) (A : Option Addr) (c : Nat) (r : Rd w A ((hdB h).map bv)) => DoubleR (hdB h) A 80 c (hdB_length k) (by omega) w r
  obtain ⟨W, hW⟩ : ∃ W, W = (w.alloc (.cells (hdc h).toArray 26)).alloc (.cells ((List.replicate 32 (0 : UInt8)).map bv).toArray 24) := ⟨_, rfl⟩
  obtain ⟨H, hH⟩ : ∃ H, H = w.heap.size := ⟨_, rfl⟩
  have aW : Av W H 26 (hdc h) := by rw [hW, hH]; exact heap_alloc2_old _ _ _
  have rW : Av W (H + 1) 24 ((List.replicate 32 (0 : UInt8)).map bv) := by rw [hW, hH]; exact heap_alloc2_new _ _ _
  have bW : Below H w W := by rw [hW, hH]; exact ((Below.refl _ _).alloc (Nat.le_refl _) _).alloc (by simp) _
  have sW : W.heap.size = H + 2 := by rw [hW, hH]; simp
  have h68 := Lib.hid (hdc_length k)
  have hz := zeros_32
  obtain ⟨zs, hzs⟩ : ∃ zs : List UInt8, zs = List.replicate 32 0 := ⟨_, rfl⟩
  have hzl : zs.length = 32 := by rw [hzs]; simp
  rw [← hzs] at hW rW hz
  clear hzs
  obtain ⟨I, hI⟩ : ∃ I, I = hdId h := ⟨_, rfl⟩
  have hIl : I.length = 32 := by rw [hI]; exact hdId_length h
  have HD2 : Hid (∀ (w : World) (A : Option Addr) (c : Nat) (_ : Rd w A ((hdB h).map bv)), Calls Tryd.prog 40 #[.slice A 80 c] w fun e w' => e = .returned (.agg (hcs I)) ∧ Below w.heap.size w w') := Lib.hid (by intro w A c r; rw [hI]; exact HD w A c r)
  rw [← hI]
  clear HD
  replace HP := Lib.hid HP
  replace hI := Lib.hid hI
  replace hW := Lib.hid hW
  replace hH := Lib.hid hH
  replace sW := Lib.hid sW
  replace hzl := Lib.hid hzl
  replace hIl := Lib.hid hIl
  go_enter Tryd.func25, Tryd.ntmps25
  go_upto_region 1 with fail
  rw [← hW.out, ← hH.out]
  have hH1 : w.heap.size ≤ H + 1 := by rw [hH.out]; omega
  have hHW : w.heap.size ≤ W.heap.size := by rw [sW.out, hH.out]; omega
  rw [hH.out] at bW
  go_wp2_with (first
    | ((with_reducible refine wpList_loadF 26 aW ?_ _ 68 h68.out Tryd.underlying26 ?_ ?_ ?_); rfl; rfl; kernel_rfl)
    | (go_at_call 24; refine (HP.out W).mono ?_; rintro e w1 ⟨⟨A1, c1, rfl, o1⟩, b1⟩; have r1 := o1.rd)
    | (go_at_call 40; refine (HD2.out w1 A1 c1 r1).mono ?_; rintro e w2 ⟨rfl, b2⟩; have r2 := (rW.below b1).below b2; have bb3 := bW.trans ((b1.trans (b2.mono b1.size)).mono hHW))
    | ((with_reducible refine wpList_storeFA 24 bb3 r2 hH1 (I.map bv) ?_ ?_ 32 ?_ ?_ ?_ ?_ ?_); rfl; rfl; (rw [List.length_map, hIl.out]); kernel_rfl; (rw [List.length_map]; exact hzl.out); (simp [Value.oneCell']); intro w6 a6 b6 k6 z6))
  refine bodyPost_ret (results_cell_row rfl _ _ (H + 1) _ _ (0, 0) _ (by rfl) a6 Tryd.underlying24 rfl (by rw [List.size_toArray, List.length_map, hIl.out]; kernel_rfl)) rfl ⟨rfl, b6⟩
end Go.Proofs.YtjgdmpbaikhflaaDoor
/- The reference of layer 4: Size, Put. -/
namespace Go.Proofs.YtjgdmpbaikhflaaDoor
open Go.RowKit
attribute [local go_sem high] slB_lh slB_l slB_h nilB_eq

set_option maxHeartbeats 400000 in
theorem ref04_Size (n : Int) (h : 0 ≤ n) (w : World) :
    Calls Tryd.prog 53 #[.int .u64 n] w fun e w' => e = .returned (.int .i64 (Cm.size n.toNat : Int)) ∧ w = w' := by
  rcases size_int n h with ⟨c1, c2⟩ | ⟨c0, c1, c2⟩ | ⟨c0, c1, c2⟩ | ⟨c1, c2⟩
  all_goals
    rw [c2]; clear c2
    go_enter Tryd.func53, Tryd.ntmps53
    go_wp2
    go_ret
    exact ⟨rfl, rfl⟩


set_option maxHeartbeats 400000 in
theorem ref04_Put_1 (bs : List UInt8) (A : Option Addr) (n c : Nat) (m : Int) (h0 : 0 ≤ m) (hsm : Cm.size m.toNat = 1) (w : World) (hr : Rd w A (bs.map bv)) (hn : bs.length = n) (hm : (n : Int) ≤ 140737488355000) :
    Calls Tryd.prog 37 #[.slice A n c, .int .u64 m] w fun e w' => ∃ v, e = .returned v ∧ OwnB w' w.heap.size v (bs ++ [UInt8.ofNat m.toNat]) ∧ Below w.heap.size w w' := by
  have H := Lib.hid (fun w => ref04_Size m h0 w)
  rw [hsm] at H
  have Hn := Lib.hid hn
  have hle : bs.length + 16 ≤ 140737488355328 := by omega
  have hmade := OwnB.made w w.heap.size (Nat.le_refl _) #[] 0 (by simp only [maxLen]; omega) rfl
  have hb1 := (Below.refl w.heap.size w).alloc (Nat.le_refl _) (.cells #[] 5)
  have hr1 := hr.below hb1
  clear hsm hn
  go_enter Tryd.func37, Tryd.ntmps37
  go_wp2_with (first
    | (go_at_call 53; refine (H.out _).mono ?_; rintro e w' ⟨rfl, rfl⟩)
    | (at_builtin; refine wpList_appB hmade hb1 (by simp) n c hr1 Hn.out (by simp; omega) rfl (.tmp 9) (.tmp 10) rfl rfl rfl ?_; intro v1 w1 hown1 hb2 hz2 _)
    | (at_builtin; refine wpList_appB1 hown1 hb2 hb2.size _ (byte_of m h0) (by simp; omega) rfl (.tmp 16) (.tmp 19) rfl rfl rfl ?_; intro v2 w2 hown2 hb3 hz3))
  go_ret
  exact ⟨v2, rfl, hown2, hb3⟩

set_option maxHeartbeats 400000 in
theorem ref04_Put_3 (bs : List UInt8) (A : Option Addr) (n c : Nat) (m : Int) (h0 : 0 ≤ m) (hsm : Cm.size m.toNat = 3) (w : World) (hr : Rd w A (bs.map bv)) (hn : bs.length = n) (hm : (n : Int) ≤ 140737488355000) :
    Calls Tryd.prog 37 #[.slice A n c, .int .u64 m] w fun e w' => ∃ v, e = .returned v ∧ OwnB w' w.heap.size v (bs ++ 253 :: Cm.lo 2 m.toNat) ∧ Below w.heap.size w w' := by
  have H := Lib.hid (fun w => ref04_Size m h0 w)
  rw [hsm] at H
  have Hn := Lib.hid hn
  have hle : bs.length + 16 ≤ 140737488355328 := by omega
  have hmade := OwnB.made w w.heap.size (Nat.le_refl _) #[] 0 (by simp only [maxLen]; omega) rfl
  have hb1 := (Below.refl w.heap.size w).alloc (Nat.le_refl _) (.cells #[] 5)
  have hr1 := hr.below hb1
  clear hsm hn
  go_enter Tryd.func37, Tryd.ntmps37
  go_wp2_with (first
    | (go_at_call 53; refine (H.out _).mono ?_; rintro e w' ⟨rfl, rfl⟩)
    | (at_builtin; refine wpList_appB hmade hb1 (by simp) n c hr1 Hn.out (by simp; omega) rfl (.tmp 9) (.tmp 10) rfl rfl rfl ?_; intro v1 w1 hown1 hb2 hz2 _)
    | (at_builtin; refine wpList_appB1 hown1 hb2 hb2.size 253 rfl (by simp; omega) rfl (.tmp 25) (.tmp 27) rfl rfl rfl ?_; intro v2 w2 hown2 hb3 hz3))
  go_loopw [5, 8] (fun v i wr => ∃ k : Nat, k ≤ 2 ∧ i = .int .i64 k ∧ OwnB wr w.heap.size v (bs ++ 253 :: Cm.lo k m.toNat) ∧ Below w.heap.size w wr) (fun _ i _ => 2 - (intOf i).toNat)
  case atStart => exact ⟨0, by omega, rfl, by simpa [Cm.lo] using hown2, hb3⟩
  case round =>
    obtain ⟨k, hk, rfl, ho, hbr⟩ := hrel
    have hll : (Cm.lo k m.toNat).length ≤ 2 := by rw [Cm.lo_length]; exact hk
    by_cases hkm : k < 2
    · go_wp2_with (at_builtin; refine wpList_appB1 ho hbr hbr.size (UInt8.ofNat (m.toNat / 256 ^ k)) (byte_at m h0 k) (by simp; omega) rfl (.tmp 35) (.tmp 42) rfl rfl rfl ?_; intro v3 w3 hown3 hb4 hz4)
      go_roundw
      case rel => exact ⟨k + 1, by omega, by go_num, by rw [Cm.lo_snoc]; simpa using hown3, hb4⟩
      case measure => simp [intOf]; omega
    · obtain rfl : k = 2 := by omega
      go_wp2
      go_ret
      exact ⟨_, rfl, ho, hbr⟩

set_option maxHeartbeats 400000 in
theorem ref04_Put_5 (bs : List UInt8) (A : Option Addr) (n c : Nat) (m : Int) (h0 : 0 ≤ m) (hsm : Cm.size m.toNat = 5) (w : World) (hr : Rd w A (bs.map bv)) (hn : bs.length = n) (hm : (n : Int) ≤ 140737488355000) :
    Calls Tryd.prog 37 #[.slice A n c, .int .u64 m] w fun e w' => ∃ v, e = .returned v ∧ OwnB w' w.heap.size v (bs ++ 254 :: Cm.lo 4 m.toNat) ∧ Below w.heap.size w w' := by
  have H := Lib.hid (fun w => ref04_Size m h0 w)
  rw [hsm] at H
  have Hn := Lib.hid hn
  have hle : bs.length + 16 ≤ 140737488355328 := by omega
  have hmade := OwnB.made w w.heap.size (Nat.le_refl _) #[] 0 (by simp only [maxLen]; omega) rfl
  have hb1 := (Below.refl w.heap.size w).alloc (Nat.le_refl _) (.cells #[] 5)
  have hr1 := hr.below hb1
  clear hsm hn
  go_enter Tryd.func37, Tryd.ntmps37
  go_wp2_with (first
    | (go_at_call 53; refine (H.out _).mono ?_; rintro e w' ⟨rfl, rfl⟩)
    | (at_builtin; refine wpList_appB hmade hb1 (by simp) n c hr1 Hn.out (by simp; omega) rfl (.tmp 9) (.tmp 10) rfl rfl rfl ?_; intro v1 w1 hown1 hb2 hz2 _)
    | (at_builtin; refine wpList_appB1 hown1 hb2 hb2.size 254 rfl (by simp; omega) rfl (.tmp 25) (.tmp 27) rfl rfl rfl ?_; intro v2 w2 hown2 hb3 hz3))
  go_loopw [5, 8] (fun v i wr => ∃ k : Nat, k ≤ 4 ∧ i = .int .i64 k ∧ OwnB wr w.heap.size v (bs ++ 254 :: Cm.lo k m.toNat) ∧ Below w.heap.size w wr) (fun _ i _ => 4 - (intOf i).toNat)
  case atStart => exact ⟨0, by omega, rfl, by simpa [Cm.lo] using hown2, hb3⟩
  case round =>
    obtain ⟨k, hk, rfl, ho, hbr⟩ := hrel
    have hll : (Cm.lo k m.toNat).length ≤ 4 := by rw [Cm.lo_length]; exact hk
    by_cases hkm : k < 4
    · go_wp2_with (at_builtin; refine wpList_appB1 ho hbr hbr.size (UInt8.ofNat (m.toNat / 256 ^ k)) (byte_at m h0 k) (by simp; omega) rfl (.tmp 35) (.tmp 42) rfl rfl rfl ?_; intro v3 w3 hown3 hb4 hz4)
      go_roundw
      case rel => exact ⟨k + 1, by omega, by go_num, by rw [Cm.lo_snoc]; simpa using hown3, hb4⟩
      case measure => simp [intOf]; omega
    · obtain rfl : k = 4 := by omega
      go_wp2
      go_ret
      exact ⟨_, rfl, ho, hbr⟩

set_option maxHeartbeats 400000 in
theorem ref04_Put_9 (bs : List UInt8) (A : Option Addr) (n c : Nat) (m : Int) (h0 : 0 ≤ m) (hsm : Cm.size m.toNat = 9) (w : World) (hr : Rd w A (bs.map bv)) (hn : bs.length = n) (hm : (n : Int) ≤ 140737488355000) :
    Calls Tryd.prog 37 #[.slice A n c, .int .u64 m] w fun e w' => ∃ v, e = .returned v ∧ OwnB w' w.heap.size v (bs ++ 255 :: Cm.lo 8 m.toNat) ∧ Below w.heap.size w w' := by
  have H := Lib.hid (fun w => ref04_Size m h0 w)
  rw [hsm] at H
  have Hn := Lib.hid hn
  have hle : bs.length + 16 ≤ 140737488355328 := by omega
  have hmade := OwnB.made w w.heap.size (Nat.le_refl _) #[] 0 (by simp only [maxLen]; omega) rfl
  have hb1 := (Below.refl w.heap.size w).alloc (Nat.le_refl _) (.cells #[] 5)
  have hr1 := hr.below hb1
  clear hsm hn
  go_enter Tryd.func37, Tryd.ntmps37
  go_wp2_with (first
    | (go_at_call 53; refine (H.out _).mono ?_; rintro e w' ⟨rfl, rfl⟩)
    | (at_builtin; refine wpList_appB hmade hb1 (by simp) n c hr1 Hn.out (by simp; omega) rfl (.tmp 9) (.tmp 10) rfl rfl rfl ?_; intro v1 w1 hown1 hb2 hz2 _)
    | (at_builtin; refine wpList_appB1 hown1 hb2 hb2.size 255 rfl (by simp; omega) rfl (.tmp 25) (.tmp 27) rfl rfl rfl ?_; intro v2 w2 hown2 hb3 hz3))
  go_loopw [5, 8] (fun v i wr => ∃ k : Nat, k ≤ 8 ∧ i = .int .i64 k ∧ OwnB wr w.heap.size v (bs ++ 255 :: Cm.lo k m.toNat) ∧ Below w.heap.size w wr) (fun _ i _ => 8 - (intOf i).toNat)
  case atStart => exact ⟨0, by omega, rfl, by simpa [Cm.lo] using hown2, hb3⟩
  case round =>
    obtain ⟨k, hk, rfl, ho, hbr⟩ := hrel
    have hll : (Cm.lo k m.toNat).length ≤ 8 := by rw [Cm.lo_length]; exact hk
    by_cases hkm : k < 8
    · go_wp2_with (at_builtin; refine wpList_appB1 ho hbr hbr.size (UInt8.ofNat (m.toNat / 256 ^ k)) (byte_at m h0 k) (by simp; omega) rfl (.tmp 35) (.tmp 42) rfl rfl rfl ?_; intro v3 w3 hown3 hb4 hz4)
      go_roundw
      case rel => exact ⟨k + 1, by omega, by go_num, by rw [Cm.lo_snoc]; simpa using hown3, hb4⟩
      case measure => simp [intOf]; omega
    · obtain rfl : k = 8 := by omega
      go_wp2
      go_ret
      exact ⟨_, rfl, ho, hbr⟩

/-- compact.Put: the bytes, and behind them the number's, in new memory. -/
theorem ref04_Put (bs : List UInt8) (A : Option Addr) (n c : Nat) (m : Int) (h0 : 0 ≤ m) (O : List UInt8) (hO : bs ++ Cm.put m.toNat = O) (w : World) (hr : Rd w A (bs.map bv)) (hn : bs.length = n) (hm : (n : Int) ≤ 140737488355000) :
    Calls Tryd.prog 37 #[.slice A n c, .int .u64 m] w fun e w' => ∃ v, e = .returned v ∧ OwnB w' w.heap.size v O ∧ Below w.heap.size w w' := by
  subst hO
  unfold Cm.put
  rcases Cm.size_cases m.toNat with h | h | h | h
  · rw [if_pos h.1]
    exact ref04_Put_1 bs A n c m h0 h.2 w hr hn hm
  · rw [if_neg (by omega), Cm.mark, if_pos h.2.1, h.2.2]
    exact ref04_Put_3 bs A n c m h0 h.2.2 w hr hn hm
  · rw [if_neg (by omega), Cm.mark, if_neg (by omega), if_pos h.2.1, h.2.2]
    exact ref04_Put_5 bs A n c m h0 h.2.2 w hr hn hm
  · rw [if_neg (by omega), Cm.mark, if_neg (by omega), if_neg (by omega), h.2]
    exact ref04_Put_9 bs A n c m h0 h.2 w hr hn hm

end Go.Proofs.YtjgdmpbaikhflaaDoor
