/- ShD; Pr; Rg: put together for the claim. -/
import Derived.Test.YtmdllemgjhkphaaDoorPr7
import Derived.Test.YtmdllemgjhkphaaDoorRf
/- Sum and Double of SHA-256. -/
namespace Go.Proofs.YtmdllemgjhkphaaDoor
open Go.RowKit
attribute [local go_sem high] slB_lh slB_l slB_h nilB_eq

/-- the sum of bytes -/
def sumB (bs : List UInt8) : List UInt8 :=
  outB (shFold ((bs.length % 64 + (padZ bs.length + 9)) / 64) (shFold (bs.length / 64) shInit bs) (bs.drop (64 * (bs.length / 64)) ++ padOf bs.length))
theorem sumB_length (bs : List UInt8) : (sumB bs).length = 32 := outB_length _
/-- the sum of the sum -/
def dblB (bs : List UInt8) : List UInt8 := sumB (sumB bs)
theorem dblB_length (bs : List UInt8) : (dblB bs).length = 32 := sumB_length _

set_option maxRecDepth 10000 in
set_option maxHeartbeats 1000000 in
theorem Sum (bs : List UInt8) (B : Option Addr) (m c : Nat) (hm : bs.length = m) (hc : m ≤ c) (hm2 : m < 18446744073709551616) (w : World) (hr : Rd w B (bs.map bv)) (ht : Tabs w) :
    Calls Tryd.prog 55 #[.slice B m c] w fun e w' => e = .returned (.agg (hcs (sumB bs))) ∧ Below w.heap.size w w' := by
  have hz := zeros_32
  have hzl : (List.replicate 32 (0 : UInt8)).length = 32 := by simp
  obtain ⟨zs, hzs⟩ : ∃ zs : List UInt8, zs = List.replicate 32 0 := ⟨_, rfl⟩
  rw [← hzs] at hz hzl
  clear hzs
  replace hzl := Lib.hid hzl
  obtain ⟨ss, hss⟩ : ∃ l, l = sumB bs := ⟨_, rfl⟩
  have hsl : ss.length = 32 := by rw [hss, sumB_length]
  rw [← hss]
  replace hss := Lib.hid hss
  replace hsl := Lib.hid hsl
  replace hm := Lib.hid hm
  go_enter Tryd.func55, Tryd.ntmps55
  have hb0 := (Below.refl w.heap.size w).alloc (Nat.le_refl _) (.cells (zs.map bv).toArray 28)
  have ha2 : Av (w.alloc (.cells (zs.map bv).toArray 28)) w.heap.size 28 (zs.map bv) := heap_alloc_new _ _
  go_wp2_with fail
  generalize w.alloc (.cells (zs.map bv).toArray 28) = w0 at *
  refine (Start w0 (ht.below hb0)).mono ?_
  rintro e w1 ⟨rfl, b1⟩
  replace ha2 := ha2.below b1
  replace b1 := hb0.trans (b1.mono hb0.size)
  have HW := Write shInit (by rw [shInit, ifill_length]) [] none 0 0 rfl (by omega) (Nat.le_refl _) 0 (by omega) (by omega) rfl bs B m c hm.out hc (.inl rfl) w1 (Rd.nil _ _) (hr.below b1) (ht.below b1)
  rw [List.nil_append, Nat.zero_add] at HW
  have e1 : IntKind.u64.wrap (0 + IntKind.u64.wrap (m : Int)) = (m : Int) := by rw [IntKind.wrap_u64, IntKind.wrap_u64]; omega
  rw [e1] at HW
  obtain ⟨h1, hh1⟩ : ∃ l, l = shFold (m / 64) shInit bs := ⟨_, rfl⟩
  have hl1 : h1.length = 8 := by rw [hh1, shFold_length _ _ _ (by rw [shInit, ifill_length])]
  rw [← hh1] at HW
  replace HW := Lib.hid HW
  replace hh1 := Lib.hid hh1
  replace hl1 := Lib.hid hl1
  clear e1 hb0
  go_wp2_with fail
  refine HW.out.mono ?_
  rintro e w2 ⟨A2, c2, rfl, hc2, hr2, b2⟩
  clear HW
  replace ha2 := ha2.below b2
  replace b2 := b1.trans (b2.mono b1.size)
  have HE := End h1 hl1.out (bs.drop (64 * (m / 64))) A2 (m % 64) c2 (by rw [List.length_drop, hm.out]; omega) (by omega) hc2 m (by omega) rfl w2 hr2 (ht.below b2)
  rw [hh1.out] at HE
  have hss2 := hss.out
  rw [sumB, hm.out] at hss2
  rw [← hss2, ← hh1.out] at HE
  replace HE := Lib.hid HE
  clear hss2
  go_wp2_with fail
  refine HE.out.mono ?_
  rintro e w3 ⟨rfl, b3⟩
  clear HE
  replace ha2 := ha2.below b3
  replace b3 := b2.trans (b3.mono b2.size)
  go_wp2_with (refine wpList_storeAv b3 ha2 (Nat.le_refl _) rfl _ _ _ rfl rfl (ss.map bv) rfl 32 (by rw [List.length_map, hsl.out]) (by kernel_rfl) (by rw [List.size_toArray, List.length_map]; exact hzl.out) (by simp [Value.oneCell']) ?_
               intro w6 a6 b6 k6 z6)
  refine bodyPost_ret (results_cell_row rfl _ _ w.heap.size _ _ (0, 0) _ rfl a6 Tryd.underlying28 rfl (by rw [List.size_toArray, List.length_map, hsl.out]; kernel_rfl)) rfl ⟨rfl, b6⟩
set_option maxRecDepth 10000 in
set_option maxHeartbeats 1000000 in
theorem Double (bs : List UInt8) (B : Option Addr) (m c : Nat) (hm : bs.length = m) (hc : m ≤ c) (hm2 : m < 18446744073709551616) (w : World) (hr : Rd w B (bs.map bv)) (ht : Tabs w) :
    Calls Tryd.prog 52 #[.slice B m c] w fun e w' => e = .returned (.agg (hcs (dblB bs))) ∧ Below w.heap.size w w' := by
  have hz := zeros_32
  have hzl : (List.replicate 32 (0 : UInt8)).length = 32 := by simp
  obtain ⟨zs, hzs⟩ : ∃ zs : List UInt8, zs = List.replicate 32 0 := ⟨_, rfl⟩
  rw [← hzs] at hz hzl
  clear hzs
  replace hzl := Lib.hid hzl
  obtain ⟨ss, hss⟩ : ∃ l, l = sumB bs := ⟨_, rfl⟩
  have hsl : ss.length = 32 := by rw [hss, sumB_length]
  rw [dblB, ← hss]
  obtain ⟨dd, hdd⟩ : ∃ l, l = sumB ss := ⟨_, rfl⟩
  have hdl : dd.length = 32 := by rw [hdd, sumB_length]
  rw [← hdd]
  replace hss := Lib.hid hss
  replace hsl := Lib.hid hsl
  replace hdd := Lib.hid hdd
  replace hdl := Lib.hid hdl
  replace hm := Lib.hid hm
  go_enter Tryd.func52, Tryd.ntmps52
  have hb0 := (Below.refl w.heap.size w).alloc (Nat.le_refl _) (.cells (zs.map bv).toArray 28)
  have ha2 : Av (w.alloc (.cells (zs.map bv).toArray 28)) w.heap.size 28 (zs.map bv) := heap_alloc_new _ _
  go_wp2_with fail
  generalize w.alloc (.cells (zs.map bv).toArray 28) = w0 at *
  refine (Sum bs B m c hm.out hc hm2 w0 (hr.below hb0) (ht.below hb0)).mono ?_
  rintro e w1 ⟨rfl, b1⟩
  rw [← hss.out]
  replace ha2 := ha2.below b1
  replace b1 := hb0.trans (b1.mono hb0.size)
  have q1 := Lib.hid ha2.lt
  go_wp2_with (refine wpList_storeAv (b1.alloc b1.size _) (heap_alloc_new _ _) b1.size rfl _ _ _ rfl rfl (ss.map bv) rfl 32 (by rw [List.length_map, hsl.out]) (by kernel_rfl) (by rw [List.size_toArray, List.length_map]; exact hzl.out) (by simp [Value.oneCell']) ?_
               intro w2 a3 b2 k2 z2
               replace z2 := Lib.hid z2
               replace ha2 := (ha2.alloc (.cells (zs.map bv).toArray 28)).same (k2 _ (Nat.ne_of_lt q1.out)))
  refine (Sum ss _ 32 32 hsl.out (Nat.le_refl _) (by omega) w2 a3.rd (ht.below b2)).mono ?_
  rintro e w3 ⟨rfl, b3⟩
  rw [← hdd.out]
  replace ha2 := ha2.below b3
  replace b3 := b2.trans (b3.mono b2.size)
  go_wp2_with (refine wpList_storeAv b3 ha2 (Nat.le_refl _) rfl _ _ _ rfl rfl (dd.map bv) rfl 32 (by rw [List.length_map, hdl.out]) (by kernel_rfl) (by rw [List.size_toArray, List.length_map]; exact hzl.out) (by simp [Value.oneCell']) ?_
               intro w6 a6 b6 k6 z6)
  refine bodyPost_ret (results_cell_row rfl _ _ w.heap.size _ _ (0, 0) _ rfl a6 Tryd.underlying28 rfl (by rw [List.size_toArray, List.length_map, hdl.out]; kernel_rfl)) rfl ⟨rfl, b6⟩

end Go.Proofs.YtmdllemgjhkphaaDoor
/- hash.Pair. -/
namespace Go.Proofs.YtmdllemgjhkphaaDoor
open Go.RowKit
attribute [local go_sem high] slB_lh slB_l slB_h nilB_eq

/-- two hashes as one -/
def pairB (a b : List UInt8) : List UInt8 := dblB (a ++ b)
theorem pairB_length (a b : List UInt8) : (pairB a b).length = 32 := dblB_length _
set_option maxRecDepth 10000 in
set_option maxHeartbeats 1000000 in
theorem Pair (a b : List UInt8) (ha : a.length = 32) (hb : b.length = 32) (w : World) (ht : Tabs w) :
    Calls Tryd.prog 41 #[.agg (hcs a), .agg (hcs b)] w fun e w' => e = .returned (.agg (hcs (pairB a b))) ∧ Below w.heap.size w w' := by
  have hz := zeros_32
  have hzl : (List.replicate 32 (0 : UInt8)).length = 32 := by simp
  obtain ⟨zs, hzs⟩ : ∃ zs : List UInt8, zs = List.replicate 32 0 := ⟨_, rfl⟩
  rw [← hzs] at hz hzl
  clear hzs
  replace hzl := Lib.hid hzl
  obtain ⟨dd, hdd⟩ : ∃ l, l = dblB (a ++ b) := ⟨_, rfl⟩
  have hdl : dd.length = 32 := by rw [hdd, dblB_length]
  rw [pairB, ← hdd]
  replace hdd := Lib.hid hdd
  replace hdl := Lib.hid hdl
  replace ha := Lib.hid ha
  replace hb := Lib.hid hb
  obtain ⟨mk, hmks, hmk⟩ := made_ex 64 64 rfl (by omega)
  replace hmks := Lib.hid hmks
  have hle1 : ([] : List UInt8).length + 32 ≤ 140737488355328 := by simp
  have hle2 : a.length + 32 ≤ 140737488355328 := by rw [ha.out]; omega
  go_enter Tryd.func41, Tryd.ntmps41
  have b0 : Below w.heap.size w (((w.alloc (.cells (a.map bv).toArray 28)).alloc (.cells (b.map bv).toArray 28)).alloc (.cells (zs.map bv).toArray 28)) := (((Below.refl _ _).alloc (Nat.le_refl _) _).alloc (by simp) _).alloc (by simp; omega) _
  have a0 : Av (((w.alloc (.cells (a.map bv).toArray 28)).alloc (.cells (b.map bv).toArray 28)).alloc (.cells (zs.map bv).toArray 28)) w.heap.size 28 (a.map bv) := Av.alloc (heap_alloc2_old _ _ _) _
  have a1 : Av (((w.alloc (.cells (a.map bv).toArray 28)).alloc (.cells (b.map bv).toArray 28)).alloc (.cells (zs.map bv).toArray 28)) (w.heap.size + 1) 28 (b.map bv) := Av.alloc (heap_alloc2_new _ _ _) _
  have a2 : Av (((w.alloc (.cells (a.map bv).toArray 28)).alloc (.cells (b.map bv).toArray 28)).alloc (.cells (zs.map bv).toArray 28)) (w.heap.size + 1 + 1) 28 (zs.map bv) := by
    have := heap_alloc_new ((w.alloc (.cells (a.map bv).toArray 28)).alloc (.cells (b.map bv).toArray 28)) (.cells (zs.map bv).toArray 28)
    have e : ∀ (v : World) (o : Obj), (v.alloc o).heap.size = v.heap.size + 1 := fun v o => by simp
    rw [e, e] at this
    exact this
  go_upto_region 1 with fail
  generalize ((w.alloc (.cells (a.map bv).toArray 28)).alloc (.cells (b.map bv).toArray 28)).alloc (.cells (zs.map bv).toArray 28) = w0 at *
  have hmade := OwnB.made w0 w0.heap.size (Nat.le_refl _) mk 64 (by simp only [maxLen]; omega) hmks.out
  have hbm := (Below.refl w0.heap.size w0).alloc (Nat.le_refl _) (.cells mk 5)
  have hr0 := a0.rd.below hbm
  go_wp2_with (first
    | (at_builtin
       refine wpList_appB hmade hbm hbm.size 32 32 hr0 ha.out hle1 rfl (.tmp 7) (.tmp 8) rfl rfl rfl ?_
       intro y1 w1 hown hb1 hz1 hg1
       rw [List.nil_append] at hown
       have hr1 := a1.rd.below hb1)
    | (at_builtin
       refine wpList_appB hown hb1 hb1.size 32 32 hr1 hb.out hle2 rfl (.tmp 10) (.tmp 11) rfl rfl rfl ?_
       intro y2 w2 hown2 hb2 hz2 hg2
       obtain ⟨A2, c2, rfl, hc2, _⟩ := hown2.formN 64 (by rw [List.length_append, ha.out, hb.out])))
  replace a2 := a2.below hb2
  replace b0 := b0.trans (hb2.mono b0.size)
  refine (Double (a ++ b) A2 64 c2 (by rw [List.length_append, ha.out, hb.out]) hc2 (by omega) w2 hown2.rd (ht.below b0)).mono ?_
  rintro e w3 ⟨rfl, b3⟩
  rw [← hdd.out]
  replace a2 := a2.below b3
  replace b3 := b0.trans (b3.mono b0.size)
  go_wp2_with (refine wpList_storeAv b3 a2 (by omega) rfl _ _ _ rfl rfl (dd.map bv) rfl 32 (by rw [List.length_map, hdl.out]) (by kernel_rfl) (by rw [List.size_toArray, List.length_map]; exact hzl.out) (by simp [Value.oneCell']) ?_
               intro w6 a6 b6 k6 z6)
  refine bodyPost_ret (results_cell_row rfl _ _ (w.heap.size + 1 + 1) _ _ (0, 0) _ rfl a6 Tryd.underlying28 rfl (by rw [List.size_toArray, List.length_map, hdl.out]; kernel_rfl)) rfl ⟨rfl, b6⟩
end Go.Proofs.YtmdllemgjhkphaaDoor
/- florinref02: Sum, Double; florinref03.Pair. -/
namespace Go.Proofs.YtmdllemgjhkphaaDoor
open Go.RowKit
attribute [local go_sem high] slB_lh slB_l slB_h nilB_eq
set_option maxRecDepth 10000 in
set_option maxHeartbeats 1000000 in
theorem SumR (bs : List UInt8) (B : Option Addr) (m c : Nat) (hm : bs.length = m) (hm2 : m ≤ 140737488355328) (w : World) (hr : Rd w B (bs.map bv)) :
    Calls Tryd.prog 56 #[.slice B m c] w fun e w' => e = .returned (.agg (hcs (sumB bs))) ∧ Below w.heap.size w w' := by
  have hz := zeros_32
  have hzl : (List.replicate 32 (0 : UInt8)).length = 32 := by simp
  obtain ⟨zs, hzs⟩ : ∃ zs : List UInt8, zs = List.replicate 32 0 := ⟨_, rfl⟩
  rw [← hzs] at hz hzl
  clear hzs
  replace hzl := Lib.hid hzl
  obtain ⟨ss, hss⟩ : ∃ l, l = sumB bs := ⟨_, rfl⟩
  have hsl : ss.length = 32 := by rw [hss, sumB_length]
  rw [← hss]
  replace hss := Lib.hid hss
  replace hsl := Lib.hid hsl
  replace hm := Lib.hid hm
  go_enter Tryd.func56, Tryd.ntmps56
  have hb0 := (Below.refl w.heap.size w).alloc (Nat.le_refl _) (.cells (zs.map bv).toArray 28)
  have ha2 : Av (w.alloc (.cells (zs.map bv).toArray 28)) w.heap.size 28 (zs.map bv) := heap_alloc_new _ _
  go_wp2_with fail
  generalize w.alloc (.cells (zs.map bv).toArray 28) = w0 at *
  refine (StartR w0).mono ?_
  rintro e w1 ⟨rfl, b1⟩
  replace ha2 := ha2.below b1
  replace b1 := hb0.trans (b1.mono hb0.size)
  have HW := WriteR shInit (by rw [shInit, ifill_length]) [] none 0 0 rfl (by omega) 0 (by omega) (by omega) rfl bs B m c hm.out (by omega) w1 (Rd.nil _ _) (hr.below b1)
  rw [List.nil_append, Nat.zero_add] at HW
  have e1 : IntKind.u64.wrap (0 + IntKind.u64.wrap (m : Int)) = (m : Int) := by rw [IntKind.wrap_u64, IntKind.wrap_u64]; omega
  rw [e1] at HW
  obtain ⟨h1, hh1⟩ : ∃ l, l = shFold (m / 64) shInit bs := ⟨_, rfl⟩
  have hl1 : h1.length = 8 := by rw [hh1, shFold_length _ _ _ (by rw [shInit, ifill_length])]
  rw [← hh1] at HW
  replace HW := Lib.hid HW
  replace hh1 := Lib.hid hh1
  replace hl1 := Lib.hid hl1
  clear e1 hb0
  go_wp2_with fail
  refine HW.out.mono ?_
  rintro e w2 ⟨A2, c2, rfl, hc2, hr2, b2⟩
  clear HW
  replace ha2 := ha2.below b2
  replace b2 := b1.trans (b2.mono b1.size)
  have HE := EndR h1 hl1.out (bs.drop (64 * (m / 64))) A2 (m % 64) c2 (by rw [List.length_drop, hm.out]; omega) (by omega) hc2 m (by omega) rfl w2 hr2
  rw [hh1.out] at HE
  have hss2 := hss.out
  rw [sumB, hm.out] at hss2
  rw [← hss2, ← hh1.out] at HE
  replace HE := Lib.hid HE
  clear hss2
  go_wp2_with fail
  refine HE.out.mono ?_
  rintro e w3 ⟨rfl, b3⟩
  clear HE
  replace ha2 := ha2.below b3
  replace b3 := b2.trans (b3.mono b2.size)
  go_wp2_with (refine wpList_storeAv b3 ha2 (Nat.le_refl _) rfl _ _ _ rfl rfl (ss.map bv) rfl 32 (by rw [List.length_map, hsl.out]) (by kernel_rfl) (by rw [List.size_toArray, List.length_map]; exact hzl.out) (by simp [Value.oneCell']) ?_
               intro w6 a6 b6 k6 z6)
  refine bodyPost_ret (results_cell_row rfl _ _ w.heap.size _ _ (0, 0) _ rfl a6 Tryd.underlying28 rfl (by rw [List.size_toArray, List.length_map, hsl.out]; kernel_rfl)) rfl ⟨rfl, b6⟩
set_option maxRecDepth 10000 in
set_option maxHeartbeats 1000000 in
theorem DoubleR (bs : List UInt8) (B : Option Addr) (m c : Nat) (hm : bs.length = m) (hm2 : m ≤ 140737488355328) (w : World) (hr : Rd w B (bs.map bv)) :
    Calls Tryd.prog 54 #[.slice B m c] w fun e w' => e = .returned (.agg (hcs (dblB bs))) ∧ Below w.heap.size w w' := by
  have hz := zeros_32
  have hzl : (List.replicate 32 (0 : UInt8)).length = 32 := by simp
  obtain ⟨zs, hzs⟩ : ∃ zs : List UInt8, zs = List.replicate 32 0 := ⟨_, rfl⟩
  rw [← hzs] at hz hzl
  clear hzs
  replace hzl := Lib.hid hzl
  obtain ⟨ss, hss⟩ : ∃ l, l = sumB bs := ⟨_, rfl⟩
  have hsl : ss.length = 32 := by rw [hss, sumB_length]
  rw [dblB, ← hss]
  obtain ⟨dd, hdd⟩ : ∃ l, l = sumB ss := ⟨_, rfl⟩
  have hdl : dd.length = 32 := by rw [hdd, sumB_length]
  rw [← hdd]
  replace hss := Lib.hid hss
  replace hsl := Lib.hid hsl
  replace hdd := Lib.hid hdd
  replace hdl := Lib.hid hdl
  replace hm := Lib.hid hm
  go_enter Tryd.func54, Tryd.ntmps54
  have hb0 := (Below.refl w.heap.size w).alloc (Nat.le_refl _) (.cells (zs.map bv).toArray 28)
  have ha2 : Av (w.alloc (.cells (zs.map bv).toArray 28)) w.heap.size 28 (zs.map bv) := heap_alloc_new _ _
  go_wp2_with fail
  generalize w.alloc (.cells (zs.map bv).toArray 28) = w0 at *
  refine (SumR bs B m c hm.out hm2 w0 (hr.below hb0)).mono ?_
  rintro e w1 ⟨rfl, b1⟩
  rw [← hss.out]
  replace ha2 := ha2.below b1
  replace b1 := hb0.trans (b1.mono hb0.size)
  have q1 := Lib.hid ha2.lt
  go_wp2_with (refine wpList_storeAv (b1.alloc b1.size _) (heap_alloc_new _ _) b1.size rfl _ _ _ rfl rfl (ss.map bv) rfl 32 (by rw [List.length_map, hsl.out]) (by kernel_rfl) (by rw [List.size_toArray, List.length_map]; exact hzl.out) (by simp [Value.oneCell']) ?_
               intro w2 a3 b2 k2 z2
               replace z2 := Lib.hid z2
               replace ha2 := (ha2.alloc (.cells (zs.map bv).toArray 28)).same (k2 _ (Nat.ne_of_lt q1.out)))
  refine (SumR ss _ 32 32 hsl.out (by omega) w2 a3.rd).mono ?_
  rintro e w3 ⟨rfl, b3⟩
  rw [← hdd.out]
  replace ha2 := ha2.below b3
  replace b3 := b2.trans (b3.mono b2.size)
  go_wp2_with (refine wpList_storeAv b3 ha2 (Nat.le_refl _) rfl _ _ _ rfl rfl (dd.map bv) rfl 32 (by rw [List.length_map, hdl.out]) (by kernel_rfl) (by rw [List.size_toArray, List.length_map]; exact hzl.out) (by simp [Value.oneCell']) ?_
               intro w6 a6 b6 k6 z6)
  refine bodyPost_ret (results_cell_row rfl _ _ w.heap.size _ _ (0, 0) _ rfl a6 Tryd.underlying28 rfl (by rw [List.size_toArray, List.length_map, hdl.out]; kernel_rfl)) rfl ⟨rfl, b6⟩
set_option maxRecDepth 10000 in
set_option maxHeartbeats 1000000 in
theorem PairR (a b : List UInt8) (ha : a.length = 32) (hb : b.length = 32) (w : World) :
    Calls Tryd.prog 50 #[.agg (hcs a), .agg (hcs b)] w fun e w' => e = .returned (.agg (hcs (pairB a b))) ∧ Below w.heap.size w w' := by
  have hz := zeros_32
  have hzl : (List.replicate 32 (0 : UInt8)).length = 32 := by simp
  obtain ⟨zs, hzs⟩ : ∃ zs : List UInt8, zs = List.replicate 32 0 := ⟨_, rfl⟩
  rw [← hzs] at hz hzl
  clear hzs
  replace hzl := Lib.hid hzl
  obtain ⟨dd, hdd⟩ : ∃ l, l = dblB (a ++ b) := ⟨_, rfl⟩
  have hdl : dd.length = 32 := by rw [hdd, dblB_length]
  rw [pairB, ← hdd]
  replace hdd := Lib.hid hdd
  replace hdl := Lib.hid hdl
  replace ha := Lib.hid ha
  replace hb := Lib.hid hb
  have hle1 : ([] : List UInt8).length + 32 ≤ 140737488355328 := by simp
  have hle2 : a.length + 32 ≤ 140737488355328 := by rw [ha.out]; omega
  go_enter Tryd.func50, Tryd.ntmps50
  have b0 : Below w.heap.size w (((w.alloc (.cells (a.map bv).toArray 28)).alloc (.cells (b.map bv).toArray 28)).alloc (.cells (zs.map bv).toArray 28)) := (((Below.refl _ _).alloc (Nat.le_refl _) _).alloc (by simp) _).alloc (by simp; omega) _
  have a0 : Av (((w.alloc (.cells (a.map bv).toArray 28)).alloc (.cells (b.map bv).toArray 28)).alloc (.cells (zs.map bv).toArray 28)) w.heap.size 28 (a.map bv) := Av.alloc (heap_alloc2_old _ _ _) _
  have a1 : Av (((w.alloc (.cells (a.map bv).toArray 28)).alloc (.cells (b.map bv).toArray 28)).alloc (.cells (zs.map bv).toArray 28)) (w.heap.size + 1) 28 (b.map bv) := Av.alloc (heap_alloc2_new _ _ _) _
  have a2 : Av (((w.alloc (.cells (a.map bv).toArray 28)).alloc (.cells (b.map bv).toArray 28)).alloc (.cells (zs.map bv).toArray 28)) (w.heap.size + 1 + 1) 28 (zs.map bv) := by
    have := heap_alloc_new ((w.alloc (.cells (a.map bv).toArray 28)).alloc (.cells (b.map bv).toArray 28)) (.cells (zs.map bv).toArray 28)
    have e : ∀ (v : World) (o : Obj), (v.alloc o).heap.size = v.heap.size + 1 := fun v o => by simp
    rw [e, e] at this
    exact this
  go_upto_region 1 with fail
  generalize ((w.alloc (.cells (a.map bv).toArray 28)).alloc (.cells (b.map bv).toArray 28)).alloc (.cells (zs.map bv).toArray 28) = w0 at *
  have hmade := OwnB.made w0 w0.heap.size (Nat.le_refl _) #[] 0 (by simp only [maxLen]; omega) rfl
  have hbm := (Below.refl w0.heap.size w0).alloc (Nat.le_refl _) (.cells #[] 5)
  have hr0 := a0.rd.below hbm
  go_wp2_with (first
    | (at_builtin
       refine wpList_appB hmade hbm hbm.size 32 32 hr0 ha.out hle1 rfl (.tmp 6) (.tmp 7) rfl rfl rfl ?_
       intro y1 w1 hown hb1 hz1 hg1
       rw [List.nil_append] at hown
       have hr1 := a1.rd.below hb1)
    | (at_builtin
       refine wpList_appB hown hb1 hb1.size 32 32 hr1 hb.out hle2 rfl (.tmp 9) (.tmp 10) rfl rfl rfl ?_
       intro y2 w2 hown2 hb2 hz2 hg2
       obtain ⟨A2, c2, rfl, hc2, _⟩ := hown2.formN 64 (by rw [List.length_append, ha.out, hb.out])))
  replace a2 := a2.below hb2
  replace b0 := b0.trans (hb2.mono b0.size)
  refine (DoubleR (a ++ b) A2 64 c2 (by rw [List.length_append, ha.out, hb.out]) (by omega) w2 hown2.rd).mono ?_
  rintro e w3 ⟨rfl, b3⟩
  rw [← hdd.out]
  replace a2 := a2.below b3
  replace b3 := b0.trans (b3.mono b0.size)
  go_wp2_with (refine wpList_storeAv b3 a2 (by omega) rfl _ _ _ rfl rfl (dd.map bv) rfl 32 (by rw [List.length_map, hdl.out]) (by kernel_rfl) (by rw [List.size_toArray, List.length_map]; exact hzl.out) (by simp [Value.oneCell']) ?_
               intro w6 a6 b6 k6 z6)
  refine bodyPost_ret (results_cell_row rfl _ _ (w.heap.size + 1 + 1) _ _ (0, 0) _ rfl a6 Tryd.underlying28 rfl (by rw [List.size_toArray, List.length_map, hdl.out]; kernel_rfl)) rfl ⟨rfl, b6⟩
end Go.Proofs.YtmdllemgjhkphaaDoor
