/- hash.Pair. -/
import Derived.Test.YtngindljhlbglaaDoorShD
namespace Go.Proofs.YtngindljhlbglaaDoor
open Go.RowKit
attribute [local go_sem high] slB_lh slB_l slB_h nilB_eq

/-- two hashes as one -/
def pairB (a b : List UInt8) : List UInt8 := dblB (a ++ b)
theorem pairB_length (a b : List UInt8) : (pairB a b).length = 32 := dblB_length _
set_option maxRecDepth 10000 in
set_option maxHeartbeats 1000000 in
theorem Pair (a b : List UInt8) (ha : a.length = 32) (hb : b.length = 32) (w : World) (ht : Tabs w) :
    Calls Tryd.prog 11 #[.agg (hcs a), .agg (hcs b)] w fun e w' => e = .returned (.agg (hcs (pairB a b))) ∧ Below w.heap.size w w' := by
  have hz := zeros_32
  have hzl : (List.replicate 32 (0 : UInt8)).length = 32 := by simp
  obtain ⟨zs, hzs⟩ : ∃ zs : List UInt8, zs = List.replicate 32 0 := ⟨_, rfl⟩
  rw [← hzs] at hz hzl
  clear hzs
  replace hzl := Lib.hid hzl
  obtain ⟨dd, hdd⟩ : ∃ l, l = dblB (a ++ b) := ⟨_, rfl⟩
  have hdl : dd.length = 32 := by rw [hdd, dblB_length]
  rw [pairB, ← hdd]
  replace hdd := Lib.hid hdd
  replace hdl := Lib.hid hdl
  replace ha := Lib.hid ha
  replace hb := Lib.hid hb
  obtain ⟨mk, hmks, hmk⟩ := made_ex 64 64 rfl (by omega)
  replace hmks := Lib.hid hmks
  have hle1 : ([] : List UInt8).length + 32 ≤ 140737488355328 := by simp
  have hle2 : a.length + 32 ≤ 140737488355328 := by rw [ha.out]; omega
  go_enter Tryd.func11, Tryd.ntmps11
  have b0 : Below w.heap.size w (((w.alloc (.cells (a.map bv).toArray 25)).alloc (.cells (b.map bv).toArray 25)).alloc (.cells (zs.map bv).toArray 25)) := (((Below.refl _ _).alloc (Nat.le_refl _) _).alloc (by simp) _).alloc (by simp; omega) _
  have a0 : Av (((w.alloc (.cells (a.map bv).toArray 25)).alloc (.cells (b.map bv).toArray 25)).alloc (.cells (zs.map bv).toArray 25)) w.heap.size 25 (a.map bv) := Av.alloc (heap_alloc2_old _ _ _) _
  have a1 : Av (((w.alloc (.cells (a.map bv).toArray 25)).alloc (.cells (b.map bv).toArray 25)).alloc (.cells (zs.map bv).toArray 25)) (w.heap.size + 1) 25 (b.map bv) := Av.alloc (heap_alloc2_new _ _ _) _
  have a2 : Av (((w.alloc (.cells (a.map bv).toArray 25)).alloc (.cells (b.map bv).toArray 25)).alloc (.cells (zs.map bv).toArray 25)) (w.heap.size + 1 + 1) 25 (zs.map bv) := by
    have := heap_alloc_new ((w.alloc (.cells (a.map bv).toArray 25)).alloc (.cells (b.map bv).toArray 25)) (.cells (zs.map bv).toArray 25)
    have e : ∀ (v : World) (o : Obj), (v.alloc o).heap.size = v.heap.size + 1 := fun v o => by simp
    rw [e, e] at this
    exact this
  go_upto_region 1 with fail
  generalize ((w.alloc (.cells (a.map bv).toArray 25)).alloc (.cells (b.map bv).toArray 25)).alloc (.cells (zs.map bv).toArray 25) = w0 at *
  have hmade := OwnB.made w0 w0.heap.size (Nat.le_refl _) mk 64 (by simp only [maxLen]; omega) hmks.out
  have hbm := (Below.refl w0.heap.size w0).alloc (Nat.le_refl _) (.cells mk 5)
  have hr0 := a0.rd.below hbm
  go_wp2_with (first
    | (at_builtin
       refine wpList_appB hmade hbm hbm.size 32 32 hr0 ha.out hle1 rfl (.tmp 7) (.tmp 8) rfl rfl rfl ?_
       intro y1 w1 hown hb1 hz1 hg1
       rw [List.nil_append] at hown
       have hr1 := a1.rd.below hb1)
    | (at_builtin
       refine wpList_appB hown hb1 hb1.size 32 32 hr1 hb.out hle2 rfl (.tmp 10) (.tmp 11) rfl rfl rfl ?_
       intro y2 w2 hown2 hb2 hz2 hg2
       obtain ⟨A2, c2, rfl, hc2, _⟩ := hown2.formN 64 (by rw [List.length_append, ha.out, hb.out])))
  replace a2 := a2.below hb2
  replace b0 := b0.trans (hb2.mono b0.size)
  refine (Double (a ++ b) A2 64 c2 (by rw [List.length_append, ha.out, hb.out]) hc2 (by omega) w2 hown2.rd (ht.below b0)).mono ?_
  rintro e w3 ⟨rfl, b3⟩
  rw [← hdd.out]
  replace a2 := a2.below b3
  replace b3 := b0.trans (b3.mono b0.size)
  go_wp2_with (refine wpList_storeAv b3 a2 (by omega) rfl _ _ _ rfl rfl (dd.map bv) rfl 32 (by rw [List.length_map, hdl.out]) (by kernel_rfl) (by rw [List.size_toArray, List.length_map]; exact hzl.out) (by simp [Value.oneCell']) ?_
               intro w6 a6 b6 k6 z6)
  refine bodyPost_ret (results_cell_row rfl _ _ (w.heap.size + 1 + 1) _ _ (0, 0) _ rfl a6 Tryd.underlying25 rfl (by rw [List.size_toArray, List.length_map, hdl.out]; kernel_rfl)) rfl ⟨rfl, b6⟩
end Go.Proofs.YtngindljhlbglaaDoor
