/- florinref02.Block: one block of SHA-256. -/
import Derived.Test.YtjgdmpbaikhflaaDoorRa
namespace Go.Proofs.YtjgdmpbaikhflaaDoor
open Go.RowKit
attribute [local go_sem high] bits_xor_wn bits_or_wn bits_and_wn wrap_add_wn xor_max_wn
/-- What the loops of Block keep. -/
structure BlkR (w wr : World) (g5 gk g6 : Nat) (h zs ws ks v : List W32) : Prop where
  b : Below w.heap.size w wr
  a1 : Ar wr w.heap.size 73 h
  a2 : Ar wr (w.heap.size + 1) 73 zs
  a5 : Ar wr g5 104 ws
  ak : Ar wr gk 104 ks
  a6 : Ar wr g6 73 v
  n1 : w.heap.size ≠ g6
  n2 : w.heap.size + 1 ≠ g6
  n5 : g5 ≠ g6
  nk : gk ≠ g6
  le : w.heap.size ≤ g6
theorem BlkR.drew {w wr : World} {g5 gk g6 : Nat} {h zs ws ks v : List W32} (B : BlkR w wr g5 gk g6 h zs ws ks v) : BlkR w wr.drew g5 gk g6 h zs ws ks v :=
  ⟨B.b.drew, B.a1, B.a2, B.a5, B.ak, B.a6, B.n1, B.n2, B.n5, B.nk, B.le⟩

set_option maxRecDepth 10000 in
set_option maxHeartbeats 4000000 in
theorem BlockR (hin : List W32) (hh : hin.length = 8) (bs : List UInt8) (A : Option Addr) (c : Nat) (hl : bs.length = 64) (w : World) (hr : Rd w A (bs.map bv)) :
    Calls Tryd.prog 77 #[.agg (wcs hin), .slice A 64 c] w fun e w' => e = .returned (.agg (wcs (shBlock hin bs))) ∧ Below w.heap.size w w' := by
  go_enter Tryd.func77, Tryd.ntmps77
  obtain ⟨ws, hws⟩ : ∃ ws, ws = shW bs := ⟨_, rfl⟩
  have hwl : ws.length = 64 := by rw [hws, shW_length]
  have W := wordsR bs A c hl
  rw [← hws] at W
  replace hws := Lib.hid hws
  obtain ⟨ks, hks⟩ : ∃ ks, ks = kWords := ⟨_, rfl⟩
  have hkl : ks.length = 64 := by rw [hks, kWords_len]
  have hka : ∀ k, k < 64 → ks.getD k 0 = kAt k := fun k hk => by rw [hks]; exact kWords_at k hk
  have K := constantsR
  rw [← hks] at K
  clear hks
  obtain ⟨zs, hzs⟩ : ∃ zs : List W32, zs = List.replicate 8 0 := ⟨_, rfl⟩
  have hzl : zs.length = 8 := by rw [hzs]; rfl
  have hz : #[Value.int IntKind.u32 0, Value.int IntKind.u32 0, Value.int IntKind.u32 0, Value.int IntKind.u32 0, Value.int IntKind.u32 0, Value.int IntKind.u32 0, Value.int IntKind.u32 0, Value.int IntKind.u32 0] = wcs zs := by rw [hzs, wcs_zeros]; rfl
  clear hzs
  replace W := Lib.hid W
  replace K := Lib.hid K
  replace hka := Lib.hid hka
  replace hzl := Lib.hid hzl
  replace hh := Lib.hid hh
  replace hwl := Lib.hid hwl
  replace hkl := Lib.hid hkl
  go_wp2_with fail
  have hb0 : Below w.heap.size w ((w.alloc (.cells (wcs hin) 73)).alloc (.cells (wcs zs) 73)) := ((Below.refl _ _).alloc (Nat.le_refl _) _).alloc (by simp) _
  have ha1 : Ar ((w.alloc (.cells (wcs hin) 73)).alloc (.cells (wcs zs) 73)) w.heap.size 73 hin := heap_alloc2_old _ _ _
  have ha2 : Ar ((w.alloc (.cells (wcs hin) 73)).alloc (.cells (wcs zs) 73)) (w.heap.size + 1) 73 zs := heap_alloc2_new _ _ _
  clear hz
  generalize (w.alloc (.cells (wcs hin) 73)).alloc (.cells (wcs zs) 73) = w0 at *
  refine (W.out w0 (hr.below hb0)).mono ?_
  rintro e w1 ⟨rfl, hb1⟩
  replace ha1 := ha1.below hb1
  replace ha2 := ha2.below hb1
  have q5 := Lib.hid ha2.lt
  replace hb1 := hb0.trans (hb1.mono hb0.size)
  clear hb0
  go_wp2_with (first
    | (refine wpList_storeAr (hb1.alloc (hb1.size) _) (heap_alloc_new _ _) hb1.size rfl _ _ _ rfl rfl ws rfl 64 hwl.out (by kernel_rfl) rfl ?_
       intro w2 a5 b2 k2 z2
       replace ha1 := (ha1.alloc _).same (k2 _ (Nat.ne_of_lt ha1.lt))
       replace ha2 := (ha2.alloc _).same (k2 _ (Nat.ne_of_lt ha2.lt))
       rw [alloc_size] at z2
       replace z2 := Lib.hid z2
       clear k2)
    | fail)
  refine (K.out w2).mono ?_
  rintro e w3 ⟨rfl, b3⟩
  replace ha1 := ha1.below b3
  replace ha2 := ha2.below b3
  replace a5 := a5.below b3
  have q3 := Lib.hid b3.size
  replace b3 := b2.trans (b3.mono b2.size)
  clear b2
  go_wp2_with (first
    | (refine wpList_storeAr (b3.alloc (b3.size) _) (heap_alloc_new _ _) b3.size rfl _ _ _ rfl rfl ks rfl 64 hkl.out (by kernel_rfl) rfl ?_
       intro w4 ak b4 k4 z4
       replace ha1 := (ha1.alloc _).same (k4 _ (Nat.ne_of_lt ha1.lt))
       replace ha2 := (ha2.alloc _).same (k4 _ (Nat.ne_of_lt ha2.lt))
       replace a5 := (a5.alloc _).same (k4 _ (Nat.ne_of_lt a5.lt))
       rw [alloc_size] at z4
       replace z4 := Lib.hid z4
       clear k4)
    | refine wpList_loadAr ha1 rfl _ _ rfl rfl _ 8 hh.out Tryd.underlying73 rfl (by kernel_rfl) ?_
    | (refine wpList_storeAr (b4.alloc (b4.size) _) (heap_alloc_new _ _) b4.size rfl _ _ _ rfl rfl hin rfl 8 hh.out (by kernel_rfl) rfl ?_
       intro w5 a6 b5 k5 z5
       replace ha1 := (ha1.alloc _).same (k5 _ (Nat.ne_of_lt ha1.lt))
       replace ha2 := (ha2.alloc _).same (k5 _ (Nat.ne_of_lt ha2.lt))
       replace a5 := (a5.alloc _).same (k5 _ (Nat.ne_of_lt a5.lt))
       replace ak := (ak.alloc _).same (k5 _ (Nat.ne_of_lt ak.lt))
       rw [alloc_size] at z5
       replace z5 := Lib.hid z5
       clear k5))
  have B0 : BlkR w w5 w1.heap.size w3.heap.size w4.heap.size hin zs ws ks hin := by
    have := q5.out; have := z2.out; have := q3.out; have := z4.out
    exact ⟨b5, ha1, ha2, a5, ak, a6, by omega, by omega, by omega, by omega, by omega⟩
  clear b3 b4 b5 ha1 ha2 a5 ak a6 W K hr hb1 q5 z2 q3 z4 z5
  generalize w1.heap.size = g5 at B0
  generalize w3.heap.size = gk at B0
  generalize w4.heap.size = g6 at B0 ⊢
  go_loopw [8] (fun i wr => ∃ k : Nat, k ≤ 64 ∧ i = .int .i64 k ∧ BlkR w wr g5 gk g6 hin zs ws ks (shRounds ws hin k)) (fun i _ => 64 - (intOf i).toNat)
  case atStart => exact ⟨0, by omega, rfl, B0⟩
  case round =>
    clear B0
    obtain ⟨k, hk, rfl, B⟩ := hrel
    by_cases hk64 : k < 64
    · have hvl := shRounds_length ws hin hh.out k
      obtain ⟨v, hv⟩ : ∃ v, v = shRounds ws hin k := ⟨_, rfl⟩
      rw [← hv] at B hvl
      replace hv := Lib.hid hv
      obtain ⟨v0, v1, v2, v3, v4, v5, v6, v7, rfl⟩ := len8 hvl
      clear hvl
      obtain ⟨x, hx⟩ : ∃ x, x = ws.getD k 0 := ⟨_, rfl⟩
      obtain ⟨y, hy⟩ : ∃ y, y = kAt k := ⟨_, rfl⟩
      have cw := B.a5.cell k (by rw [hwl.out]; exact hk64)
      have ck := B.ak.cell k (by rw [hkl.out]; exact hk64)
      rw [← hx] at cw
      rw [hka.out k hk64, ← hy] at ck
      replace hx := Lib.hid hx
      replace hy := Lib.hid hy
      have hk0 : 0 ≤ (k : Int) := by omega
      have hk1 : (k : Int) < 64 := by omega
      have T6 := turnR v4 6 6 rfl (by decide) (by decide)
      have T11 := turnR v4 11 11 rfl (by decide) (by decide)
      have T25 := turnR v4 25 25 rfl (by decide) (by decide)
      have T2 := turnR v0 2 2 rfl (by decide) (by decide)
      have T13 := turnR v0 13 13 rfl (by decide) (by decide)
      have T22 := turnR v0 22 22 rfl (by decide) (by decide)
      have c4 : wr.cell? _ = some (wc v4) := B.a6.cell 4 (by simp)
      have c5 : wr.cell? _ = some (wc v5) := B.a6.cell 5 (by simp)
      have c6 : wr.cell? _ = some (wc v6) := B.a6.cell 6 (by simp)
      have c7 : wr.cell? _ = some (wc v7) := B.a6.cell 7 (by simp)
      go_wp2
      refine wp_region_still_lit (by kernel_rfl) (by kernel_rfl) ?_
      repeat still_step
      still_call (T6 _)
      repeat still_step
      still_call (T11 _)
      repeat still_step
      still_call (T25 _)
      repeat still_step
      refine wpStill_nil ?_
      change Exit.then _ _ _ _ wr.drew
      clear c4 c5 c6 c7 cw ck
      replace B := B.drew
      generalize wr.drew = wb at B ⊢
      have c0 : wb.cell? _ = some (wc v0) := B.a6.cell 0 (by simp)
      have c1 : wb.cell? _ = some (wc v1) := B.a6.cell 1 (by simp)
      have c2 : wb.cell? _ = some (wc v2) := B.a6.cell 2 (by simp)
      go_wp2
      refine wp_region_still_lit (by kernel_rfl) (by kernel_rfl) ?_
      repeat still_step
      still_call (T2 _)
      repeat still_step
      still_call (T13 _)
      repeat still_step
      still_call (T22 _)
      repeat still_step
      refine wpStill_nil ?_
      change Exit.then _ _ _ _ wb.drew
      clear c0 c1 c2
      replace B := B.drew
      generalize wb.drew = wd at B ⊢
      have c0 : wd.cell? _ = some (wc v0) := B.a6.cell 0 (by simp)
      have c1 : wd.cell? _ = some (wc v1) := B.a6.cell 1 (by simp)
      have c2 : wd.cell? _ = some (wc v2) := B.a6.cell 2 (by simp)
      have c3 : wd.cell? _ = some (wc v3) := B.a6.cell 3 (by simp)
      have c4 : wd.cell? _ = some (wc v4) := B.a6.cell 4 (by simp)
      have c5 : wd.cell? _ = some (wc v5) := B.a6.cell 5 (by simp)
      have c6 : wd.cell? _ = some (wc v6) := B.a6.cell 6 (by simp)
      have c7 : wd.cell? _ = some (wc v7) := B.a6.cell 7 (by simp)
      go_wp2_with (refine wpList_storeAr B.b B.a6 B.le rfl _ _ _ rfl rfl (shRound y x [v0, v1, v2, v3, v4, v5, v6, v7]) rfl 8 rfl (by kernel_rfl) rfl ?_; intro w6 a6 b6 k6 z6)
      refine ⟨⟨k + 1, by omega, by go_num, ⟨b6, B.a1.same (k6 _ B.n1), B.a2.same (k6 _ B.n2), B.a5.same (k6 _ B.n5), B.ak.same (k6 _ B.nk), ?_, B.n1, B.n2, B.n5, B.nk, B.le⟩⟩, ?_⟩
      · rw [shRounds, ← hv.out, ← hx.out, ← hy.out]; exact a6
      · simp [intOf]; omega
    · obtain rfl : k = 64 := by omega
      clear hk64 hk
      have hvl := shRounds_length ws hin hh.out 64
      obtain ⟨v, hv⟩ : ∃ v, v = shRounds ws hin 64 := ⟨_, rfl⟩
      rw [← hv] at B hvl
      replace hv := Lib.hid hv
      replace hvl := Lib.hid hvl
      obtain ⟨wo, rfl⟩ : ∃ wo : World, wo = wr := ⟨_, rfl⟩
      go_wp2
      go_loopw [11] (fun i wr => ∃ k : Nat, k ≤ 8 ∧ i = .int .i64 k ∧ BlkR w wr g5 gk g6 hin zs ws ks (addv hin v k)) (fun i _ => 8 - (intOf i).toNat)
      case atStart => exact ⟨0, by omega, rfl, B⟩
      case round =>
        clear B
        obtain ⟨k, hk, rfl, B⟩ := hrel
        by_cases hk8 : k < 8
        · have hk0 : 0 ≤ (k : Int) := by omega
          have hk1 : (k : Int) < 8 := by omega
          have hce := B.a6.cell k (by rw [addv_length, hvl.out]; exact hk8)
          have hc1 := B.a1.cell k (by rw [hh.out]; exact hk8)
          have hfz : wr.frozen? ⟨g6, k, none⟩ = false := frozen_of_row _ _ _ _ _ B.a6
          obtain ⟨x, hx⟩ : ∃ x, x = (addv hin v k).getD k 0 := ⟨_, rfl⟩
          obtain ⟨y, hy⟩ : ∃ y, y = hin.getD k 0 := ⟨_, rfl⟩
          rw [← hx] at hce
          rw [← hy] at hc1
          replace hx := Lib.hid hx
          replace hy := Lib.hid hy
          go_wp2
          go_still_tail 9, (by kernel_rfl)
          change wpList _ _ _ _ _ (World.drew _)
          go_wp2
          refine ⟨?_, ?measure⟩
          iterate 14 (apply Exists.intro)
          refine ⟨?rel, rfl⟩
          case rel =>
            have b6 := (B.b.setCell (p := ⟨g6, k, none⟩) B.le (wc (x + y))).drew
            refine ⟨k + 1, by omega, by go_num, ⟨b6, (B.a1.other _ _ B.n1).drew, (B.a2.other _ _ B.n2).drew, (B.a5.other _ _ B.n5).drew, (B.ak.other _ _ B.nk).drew, ?_, B.n1, B.n2, B.n5, B.nk, B.le⟩⟩
            rw [addv, ← hx.out, ← hy.out]
            exact (B.a6.set k (x + y)).drew
          case measure => simp [intOf]; omega
        · obtain rfl : k = 8 := by omega
          clear hk8 hk
          have hvl2 : (addv hin v 8).length = 8 := by rw [addv_length, hvl.out]
          obtain ⟨v2, hv2⟩ : ∃ l, l = addv hin v 8 := ⟨_, rfl⟩
          rw [← hv2] at B hvl2
          replace hv2 : Hid (v2 = shBlock hin bs) := Lib.hid (by rw [hv2, hv.out, hws.out]; rfl)
          go_wp2_with (first
            | refine wpList_loadAr B.a6 rfl _ _ rfl rfl _ 8 hvl2 Tryd.underlying73 rfl (by kernel_rfl) ?_
            | (refine wpList_storeAr B.b B.a2 (by omega) rfl _ _ _ rfl rfl v2 rfl 8 hvl2 (by kernel_rfl) (by rw [wcs_size, hzl.out]) ?_
               intro w6 a2 b6 k6 z6))
          exact bodyPost_ret (v := .agg (wcs v2)) (results_cell_row rfl _ _ (w.heap.size + 1) _ _ (0, 0) _ rfl a2 Tryd.underlying73 rfl (by rw [wcs_size, hvl2]; kernel_rfl)) rfl ⟨by rw [← hv2.out], b6⟩
end Go.Proofs.YtjgdmpbaikhflaaDoor
