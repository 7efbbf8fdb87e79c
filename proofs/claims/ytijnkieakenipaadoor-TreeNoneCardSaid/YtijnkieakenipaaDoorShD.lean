/- Sum and Double of SHA-256. -/
import Derived.Test.YtijnkieakenipaaDoorShE
namespace Go.Proofs.YtijnkieakenipaaDoor
open Go.RowKit
attribute [local go_sem high] slB_lh slB_l slB_h nilB_eq

/-- the sum of bytes -/
def sumB (bs : List UInt8) : List UInt8 :=
  outB (shFold ((bs.length % 64 + (padZ bs.length + 9)) / 64) (shFold (bs.length / 64) shInit bs) (bs.drop (64 * (bs.length / 64)) ++ padOf bs.length))
theorem sumB_length (bs : List UInt8) : (sumB bs).length = 32 := outB_length _
/-- the sum of the sum -/
def dblB (bs : List UInt8) : List UInt8 := sumB (sumB bs)
theorem dblB_length (bs : List UInt8) : (dblB bs).length = 32 := sumB_length _

set_option maxRecDepth 10000 in
set_option maxHeartbeats 1000000 in
theorem Sum (bs : List UInt8) (B : Option Addr) (m c : Nat) (hm : bs.length = m) (hc : m ≤ c) (hm2 : m < 18446744073709551616) (w : World) (hr : Rd w B (bs.map bv)) (ht : Tabs w) :
    Calls Tryd.prog 32 #[.slice B m c] w fun e w' => e = .returned (.agg (hcs (sumB bs))) ∧ Below w.heap.size w w' := by
  have hz := zeros_32
  have hzl : (List.replicate 32 (0 : UInt8)).length = 32 := by simp
  obtain ⟨zs, hzs⟩ : ∃ zs : List UInt8, zs = List.replicate 32 0 := ⟨_, rfl⟩
  rw [← hzs] at hz hzl
  clear hzs
  replace hzl := Lib.hid hzl
  obtain ⟨ss, hss⟩ : ∃ l, l = sumB bs := ⟨_, rfl⟩
  have hsl : ss.length = 32 := by rw [hss, sumB_length]
  rw [← hss]
  replace hss := Lib.hid hss
  replace hsl := Lib.hid hsl
  replace hm := Lib.hid hm
  go_enter Tryd.func32, Tryd.ntmps32
  have hb0 := (Below.refl w.heap.size w).alloc (Nat.le_refl _) (.cells (zs.map bv).toArray 25)
  have ha2 : Av (w.alloc (.cells (zs.map bv).toArray 25)) w.heap.size 25 (zs.map bv) := heap_alloc_new _ _
  go_wp2_with fail
  generalize w.alloc (.cells (zs.map bv).toArray 25) = w0 at *
  refine (Start w0 (ht.below hb0)).mono ?_
  rintro e w1 ⟨rfl, b1⟩
  replace ha2 := ha2.below b1
  replace b1 := hb0.trans (b1.mono hb0.size)
  have HW := Write shInit (by rw [shInit, ifill_length]) [] none 0 0 rfl (by omega) (Nat.le_refl _) 0 (by omega) (by omega) rfl bs B m c hm.out hc (.inl rfl) w1 (Rd.nil _ _) (hr.below b1) (ht.below b1)
  rw [List.nil_append, Nat.zero_add] at HW
  have e1 : IntKind.u64.wrap (0 + IntKind.u64.wrap (m : Int)) = (m : Int) := by rw [IntKind.wrap_u64, IntKind.wrap_u64]; omega
  rw [e1] at HW
  obtain ⟨h1, hh1⟩ : ∃ l, l = shFold (m / 64) shInit bs := ⟨_, rfl⟩
  have hl1 : h1.length = 8 := by rw [hh1, shFold_length _ _ _ (by rw [shInit, ifill_length])]
  rw [← hh1] at HW
  replace HW := Lib.hid HW
  replace hh1 := Lib.hid hh1
  replace hl1 := Lib.hid hl1
  clear e1 hb0
  go_wp2_with fail
  refine HW.out.mono ?_
  rintro e w2 ⟨A2, c2, rfl, hc2, hr2, b2⟩
  clear HW
  replace ha2 := ha2.below b2
  replace b2 := b1.trans (b2.mono b1.size)
  have HE := End h1 hl1.out (bs.drop (64 * (m / 64))) A2 (m % 64) c2 (by rw [List.length_drop, hm.out]; omega) (by omega) hc2 m (by omega) rfl w2 hr2 (ht.below b2)
  rw [hh1.out] at HE
  have hss2 := hss.out
  rw [sumB, hm.out] at hss2
  rw [← hss2, ← hh1.out] at HE
  replace HE := Lib.hid HE
  clear hss2
  go_wp2_with fail
  refine HE.out.mono ?_
  rintro e w3 ⟨rfl, b3⟩
  clear HE
  replace ha2 := ha2.below b3
  replace b3 := b2.trans (b3.mono b2.size)
  go_wp2_with (refine wpList_storeAv b3 ha2 (Nat.le_refl _) rfl _ _ _ rfl rfl (ss.map bv) rfl 32 (by rw [List.length_map, hsl.out]) (by kernel_rfl) (by rw [List.size_toArray, List.length_map]; exact hzl.out) (by simp [Value.oneCell']) ?_
               intro w6 a6 b6 k6 z6)
  refine bodyPost_ret (results_cell_row rfl _ _ w.heap.size _ _ (0, 0) _ rfl a6 Tryd.underlying25 rfl (by rw [List.size_toArray, List.length_map, hsl.out]; kernel_rfl)) rfl ⟨rfl, b6⟩
set_option maxRecDepth 10000 in
set_option maxHeartbeats 1000000 in
theorem Double (bs : List UInt8) (B : Option Addr) (m c : Nat) (hm : bs.length = m) (hc : m ≤ c) (hm2 : m < 18446744073709551616) (w : World) (hr : Rd w B (bs.map bv)) (ht : Tabs w) :
    Calls Tryd.prog 25 #[.slice B m c] w fun e w' => e = .returned (.agg (hcs (dblB bs))) ∧ Below w.heap.size w w' := by
  have hz := zeros_32
  have hzl : (List.replicate 32 (0 : UInt8)).length = 32 := by simp
  obtain ⟨zs, hzs⟩ : ∃ zs : List UInt8, zs = List.replicate 32 0 := ⟨_, rfl⟩
  rw [← hzs] at hz hzl
  clear hzs
  replace hzl := Lib.hid hzl
  obtain ⟨ss, hss⟩ : ∃ l, l = sumB bs := ⟨_, rfl⟩
  have hsl : ss.length = 32 := by rw [hss, sumB_length]
  rw [dblB, ← hss]
  obtain ⟨dd, hdd⟩ : ∃ l, l = sumB ss := ⟨_, rfl⟩
  have hdl : dd.length = 32 := by rw [hdd, sumB_length]
  rw [← hdd]
  replace hss := Lib.hid hss
  replace hsl := Lib.hid hsl
  replace hdd := Lib.hid hdd
  replace hdl := Lib.hid hdl
  replace hm := Lib.hid hm
  go_enter Tryd.func25, Tryd.ntmps25
  have hb0 := (Below.refl w.heap.size w).alloc (Nat.le_refl _) (.cells (zs.map bv).toArray 25)
  have ha2 : Av (w.alloc (.cells (zs.map bv).toArray 25)) w.heap.size 25 (zs.map bv) := heap_alloc_new _ _
  go_wp2_with fail
  generalize w.alloc (.cells (zs.map bv).toArray 25) = w0 at *
  refine (Sum bs B m c hm.out hc hm2 w0 (hr.below hb0) (ht.below hb0)).mono ?_
  rintro e w1 ⟨rfl, b1⟩
  rw [← hss.out]
  replace ha2 := ha2.below b1
  replace b1 := hb0.trans (b1.mono hb0.size)
  have q1 := Lib.hid ha2.lt
  go_wp2_with (refine wpList_storeAv (b1.alloc b1.size _) (heap_alloc_new _ _) b1.size rfl _ _ _ rfl rfl (ss.map bv) rfl 32 (by rw [List.length_map, hsl.out]) (by kernel_rfl) (by rw [List.size_toArray, List.length_map]; exact hzl.out) (by simp [Value.oneCell']) ?_
               intro w2 a3 b2 k2 z2
               replace z2 := Lib.hid z2
               replace ha2 := (ha2.alloc (.cells (zs.map bv).toArray 25)).same (k2 _ (Nat.ne_of_lt q1.out)))
  refine (Sum ss _ 32 32 hsl.out (Nat.le_refl _) (by omega) w2 a3.rd (ht.below b2)).mono ?_
  rintro e w3 ⟨rfl, b3⟩
  rw [← hdd.out]
  replace ha2 := ha2.below b3
  replace b3 := b2.trans (b3.mono b2.size)
  go_wp2_with (refine wpList_storeAv b3 ha2 (Nat.le_refl _) rfl _ _ _ rfl rfl (dd.map bv) rfl 32 (by rw [List.length_map, hdl.out]) (by kernel_rfl) (by rw [List.size_toArray, List.length_map]; exact hzl.out) (by simp [Value.oneCell']) ?_
               intro w6 a6 b6 k6 z6)
  refine bodyPost_ret (results_cell_row rfl _ _ w.heap.size _ _ (0, 0) _ rfl a6 Tryd.underlying25 rfl (by rw [List.size_toArray, List.length_map, hdl.out]; kernel_rfl)) rfl ⟨rfl, b6⟩

end Go.Proofs.YtijnkieakenipaaDoor
