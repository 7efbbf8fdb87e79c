/- Y8; Y9; Ya: put together for the claim. -/
import Derived.Test.YtjgdmpbaikhflaaDoorY7
import Derived.Test.YtjgdmpbaikhflaaDoorPr2
import Derived.Test.YtjgdmpbaikhflaaDoorMts
import Derived.Test.YtjgdmpbaikhflaaDoorPr3
/- Bytes from the last on are the number the lowest byte first; the reference's hash.Number. -/
namespace Go.Proofs.YtjgdmpbaikhflaaDoor
open Go.RowKit
theorem beN_rev (bs : List UInt8) : beN bs.reverse = Cm.le bs := by
  rw [beN, List.foldl_reverse]
  induction bs with
  | nil => rfl
  | cons b r ih => rw [List.foldr_cons, ih, Cm.le]; omega
theorem drop_rev (x : List UInt8) (j : Nat) (y : UInt8) (h : x[j]? = some y) : (x.drop j).reverse = (x.drop (j + 1)).reverse ++ [y] := by
  rw [List.drop_eq_getElem_cons (List.getElem?_eq_some_iff.1 h).1, List.reverse_cons, (List.getElem?_eq_some_iff.1 h).2]
set_option maxRecDepth 100000 in
set_option maxHeartbeats 4000000 in
theorem RHNum (x : List UInt8) (hx : x.length = 32) (w : World) :
    Calls Tryd.prog 52 #[.agg (x.map bv).toArray] w fun e w' => e = .returned (.agg (uc (Cm.le x)).toArray) ∧ Below w.heap.size w w' := by
  obtain ⟨W, hW⟩ : ∃ W, W = (w.alloc (.cells (x.map bv).toArray 24)).alloc (.cells #[.int .u64 0, .int .u64 0, .int .u64 0, .int .u64 0] 81) := ⟨_, rfl⟩
  obtain ⟨H, hH⟩ : ∃ H, H = w.heap.size := ⟨_, rfl⟩
  have bW : Below w.heap.size w W := by rw [hW]; exact ((Below.refl _ _).alloc (Nat.le_refl _) _).alloc (by simp) _
  have aX : Av W H 24 (x.map bv) := by rw [hW, hH]; exact heap_alloc2_old _ _ _
  have aR : Av W (H + 1) 81 (uq4 0 0 0 0) := by rw [hW, hH]; exact heap_alloc2_new _ _ _
  have hHw : Hid (w.heap.size ≤ H + 1) := Lib.hid (by rw [hH]; omega)
  have o0 := OwnB.nil W W.heap.size
  obtain ⟨Z, hZ⟩ : ∃ Z, Z = uc (Cm.le x) := ⟨_, rfl⟩
  rw [← hZ]
  have lZ : Hid (Z.length = 4) := Lib.hid (by rw [hZ]; rfl)
  have oZ : Hid (Z.all (·.oneCell') = true) := Lib.hid (by rw [hZ]; rfl)
  replace hZ := Lib.hid hZ
  replace hW := Lib.hid hW
  replace hH := Lib.hid hH
  replace hx := Lib.hid hx
  go_enter Tryd.func52, Tryd.ntmps52
  go_upto_region 1 with fail
  rw [← hW.out, ← hH.out]
  go_upto_region 3 with fail
  go_loopw [3, 4] (fun v iv wr => ∃ (k : Nat) (z : Int), k ≤ 32 ∧ iv = .int .i64 z ∧ z = (k : Int) - 1 ∧ OwnB wr W.heap.size v (x.drop k).reverse ∧ Below W.heap.size W wr) (fun _ iv _ => (intOf iv + 1).toNat)
  case atStart => exact ⟨32, 31, by omega, rfl, by omega, by rw [List.drop_eq_nil_of_le (by rw [hx.out]; omega)]; exact o0, Below.refl _ _⟩
  case round =>
    clear o0
    obtain ⟨k, z, hk, rfl, hz, ho, bw⟩ := hrel
    by_cases hk0 : k = 0
    · subst hk0
      obtain rfl : z = -1 := by omega
      rw [List.drop_zero] at ho
      obtain ⟨A, c, hv, _⟩ := ho.formN 32 (by rw [List.length_reverse, hx.out])
      subst hv
      have HB := RFromBytes x.reverse A 32 c (by rw [List.length_reverse, hx.out]) (by omega) _ ho.rd
      rw [beN_rev, ← hZ.out] at HB
      replace HB := Lib.hid HB
      have bw0 := bW.trans (bw.mono bW.size)
      have aR0 := aR.below bw
      clear hz ho bw aX aR bW
      go_upto_region 7 with (first
        | (go_at_call 66; refine (HB.out).mono ?_; rintro e w3 ⟨rfl, b3⟩)
        | ((with_reducible refine wpList_storeF 81 ((Below.refl w3.heap.size w3).alloc (Nat.le_refl _) _) (heap_alloc_new _ _) (Nat.le_refl _) Z ?_ ?_ 4 lZ.out ?_ ?_ oZ.out ?_); rfl; rfl; kernel_rfl; rfl; intro w5 a5 b5 k5 z5; clear k5 z5))
      have b35 := b3.trans (b5.mono b3.size)
      have bw5 := bw0.trans (b35.mono bw0.size)
      have aR5 := aR0.below b35
      clear b3 b5 b35 bw0 aR0
      go_wp2_with (first
        | ((with_reducible refine wpList_loadF 81 a5 ?_ _ 4 lZ.out Tryd.underlying81 ?_ ?_ ?_); rfl; rfl; kernel_rfl)
        | ((with_reducible refine wpList_storeFA 81 bw5 aR5 hHw.out Z ?_ ?_ 4 lZ.out ?_ ?_ oZ.out ?_); rfl; rfl; kernel_rfl; rfl; intro w9 a9 b9 k9 z9; clear k9 z9))
      refine bodyPost_ret (results_cell_row rfl _ _ (H + 1) _ _ (0, 0) _ (by rfl) a9 Tryd.underlying81 rfl (by rw [List.size_toArray, lZ.out]; kernel_rfl)) rfl ⟨rfl, b9⟩
    · obtain ⟨j, rfl⟩ : ∃ j, k = j + 1 := ⟨k - 1, by omega⟩
      obtain rfl : z = (j : Int) := by omega
      have t1 : decide ((0 : Int) ≤ (j : Int)) = true := by simp
      have j0 : (0 : Int) ≤ (j : Int) := by omega
      have j1 : (j : Int) < 32 := by omega
      obtain ⟨y, hy⟩ : ∃ y, x[j]? = some y := ⟨_, List.getElem?_eq_getElem (by rw [hx.out]; omega)⟩
      have cx := (aX.below bw).cell j (bv y) (by rw [List.getElem?_map, hy]; rfl)
      have hnx := Lib.hid (drop_rev x j y hy)
      have hlr : (x.drop (j + 1)).reverse.length + 1 ≤ 140737488355328 := by
        rw [List.length_reverse, List.length_drop, hx.out]; omega
      replace hy := Lib.hid hy
      have e9 : IntKind.i64.wrap ((j : Int) - 1) = (j : Int) - 1 := by rw [IntKind.wrap_i64]; omega
      clear hz
      go_upto_region 4 with (at_builtin; refine wpList_appB1 ho bw bw.size y rfl hlr rfl (.tmp 11) (.tmp 15) rfl rfl rfl ?_; intro v2 w2 o2 b2 hz2)
      rw [← hnx.out] at o2
      replace o2 := Lib.hid o2
      clear ho bw cx hz2
      go_wp2
      refine ⟨⟨j, (j : Int) - 1, by omega, rfl, rfl, o2.out, b2⟩, ?_⟩
      simp [intOf]
end Go.Proofs.YtjgdmpbaikhflaaDoor
/- The reference's Meets. -/
namespace Go.Proofs.YtjgdmpbaikhflaaDoor
open Go.RowKit
/-- what Expand tells: the number, the error -/
def exN (b : Nat) : Nat := (mExp b).getD 0
def exE (b : Nat) : Nat := if (mExp b).isSome then 0 else 7
theorem expV_ex (b : Nat) : expV b = .tuple #[.agg (uc (exN b)).toArray, .int .i64 (exE b : Int)] := by
  unfold expV exN exE
  cases mExp b <;> rfl
theorem exN_lt (b : Nat) : exN b < 2 ^ 256 := by
  unfold exN
  cases h : mExp b with
  | none => exact Nat.two_pow_pos _
  | some t => exact Nat.lt_of_lt_of_le (mExp_lt h).1 (by decide)
theorem mMeets_ex (x : List UInt8) (b l : Nat) : mMeets x b l = if exE b ≠ 0 ∨ exE l ≠ 0 ∨ exN l < exN b then 7 else if exN b < Cm.le x then 6 else 0 := by
  unfold mMeets exE exN
  cases mExp b with
  | none => simp
  | some t =>
    cases mExp l with
    | none => simp
    | some u => simp
set_option maxRecDepth 100000 in
set_option maxHeartbeats 4000000 in
theorem RMeets (x : List UInt8) (hx : x.length = 32) (b l : Nat) (hb : b < 4294967296) (hl : l < 4294967296) (w : World) :
    Calls Tryd.prog 36 #[.agg (x.map bv).toArray, .int .u32 (b : Int), .int .u32 (l : Int)] w fun e w' => e = .returned (.int .i64 (mMeets x b l : Int)) ∧ Below w.heap.size w w' := by
  obtain ⟨W, hW⟩ : ∃ W, W = w.alloc (.cells (x.map bv).toArray 24) := ⟨_, rfl⟩
  obtain ⟨H, hH⟩ : ∃ H, H = w.heap.size := ⟨_, rfl⟩
  have bW : Below w.heap.size w W := by rw [hW]; exact (Below.refl _ _).alloc (Nat.le_refl _) _
  have aW : Av W H 24 (x.map bv) := by rw [hW, hH]; exact heap_alloc_new _ _
  have x32 : Hid ((x.map bv).length = 32) := Lib.hid (by rw [List.length_map, hx])
  have HE1 := RExpand b hb
  have HE2 := RExpand l hl
  rw [expV_ex] at HE1 HE2
  have HM := mMeets_ex x b l
  have ht := exN_lt b
  have hu := exN_lt l
  obtain ⟨t, et⟩ : ∃ t, t = exN b := ⟨_, rfl⟩
  obtain ⟨u, eu⟩ : ∃ t, t = exN l := ⟨_, rfl⟩
  obtain ⟨p, ep⟩ : ∃ t, t = exE b := ⟨_, rfl⟩
  obtain ⟨q, eq⟩ : ∃ t, t = exE l := ⟨_, rfl⟩
  rw [← et, ← ep] at HE1
  rw [← eu, ← eq] at HE2
  rw [← et, ← eu, ← ep, ← eq] at HM
  rw [← et] at ht
  rw [← eu] at hu
  have HC1 := Lib.hid (RCmp t u ht hu)
  have hxl : Cm.le x < 2 ^ 256 := by have := Cm.le_lt x; rw [hx] at this; exact Nat.lt_of_lt_of_le this (by decide)
  have HC2 := Lib.hid (RCmp (Cm.le x) t hxl ht)
  have HNm := Lib.hid (RHNum x hx)
  obtain ⟨Z, hZ⟩ : ∃ Z, Z = mMeets x b l := ⟨_, rfl⟩
  rw [← hZ] at HM ⊢
  replace HE1 := Lib.hid HE1
  replace HE2 := Lib.hid HE2
  replace hZ := Lib.hid hZ
  replace HM := Lib.hid HM
  replace hW := Lib.hid hW
  replace hH := Lib.hid hH
  clear et eu ep eq ht hu hxl hx
  go_enter Tryd.func36, Tryd.ntmps36
  go_upto_region 1 with fail
  rw [← hW.out, ← hH.out]
  go_upto_region 2 with (first
    | (go_at_call 50; refine (HE1.out _).mono ?_; rintro e w1 ⟨rfl, b1⟩)
    | ((with_reducible refine wpList_storeF 81 ((Below.refl w1.heap.size w1).alloc (Nat.le_refl _) _) (heap_alloc_new _ _) (Nat.le_refl _) (uc t) ?_ ?_ 4 (uc_lenR t) ?_ ?_ (uc_oneR t) ?_); rfl; rfl; kernel_rfl; rfl; intro w2 a7 b2 k2 z2; clear k2 z2))
  have b12 := b1.trans (b2.mono b1.size)
  have bw2 := bW.trans (b12.mono bW.size)
  have aW2 := aW.below b12
  clear b1 b2 b12 bW aW
  go_upto_region 3 with (first
    | (go_at_call 50; refine (HE2.out _).mono ?_; rintro e w3 ⟨rfl, b3⟩)
    | ((with_reducible refine wpList_storeF 81 ((Below.refl w3.heap.size w3).alloc (Nat.le_refl _) _) (heap_alloc_new _ _) (Nat.le_refl _) (uc u) ?_ ?_ 4 (uc_lenR u) ?_ ?_ (uc_oneR u) ?_); rfl; rfl; kernel_rfl; rfl; intro w4 a9 b4 k2 z2; clear k2 z2))
  have b34 := b3.trans (b4.mono b3.size)
  have bw4 := bw2.trans (b34.mono bw2.size)
  have aW4 := aW2.below b34
  have a74 := a7.below b34
  clear b3 b4 b34 bw2 aW2 a7
  by_cases hp : p = 0
  · subst hp
    by_cases hq : q = 0
    · subst hq
      by_cases hut : u < t
      · have hv : Z = 7 := by rw [HM.out, if_pos (Or.inr (Or.inr hut))]
        have tq : decide ((0 : Int) < cmpN t u) = true := by rw [cmpN_pos]; simpa using hut
        replace hv := Lib.hid hv
        clear hut
        go_wp2_with (first
          | ((with_reducible refine wpList_loadG 81 a74 ?_ ?_ _ 4 (uc_lenR t) Tryd.underlying81 ?_ ?_ ?_); rfl; rfl; rfl; kernel_rfl)
          | ((with_reducible refine wpList_loadG 81 a9 ?_ ?_ _ 4 (uc_lenR u) Tryd.underlying81 ?_ ?_ ?_); rfl; rfl; rfl; kernel_rfl)
          | (go_at_call 51; refine (HC1.out _).mono ?_; rintro e w5 ⟨rfl, b5⟩))
        go_ret
        exact ⟨by rw [hv.out]; rfl, bw4.trans (b5.mono bw4.size)⟩
      · have tq : decide ((0 : Int) < cmpN t u) = false := by rw [cmpN_pos]; simpa using hut
        go_upto_region 5 with (first
          | ((with_reducible refine wpList_loadG 81 a74 ?_ ?_ _ 4 (uc_lenR t) Tryd.underlying81 ?_ ?_ ?_); rfl; rfl; rfl; kernel_rfl)
          | ((with_reducible refine wpList_loadG 81 a9 ?_ ?_ _ 4 (uc_lenR u) Tryd.underlying81 ?_ ?_ ?_); rfl; rfl; rfl; kernel_rfl)
          | (go_at_call 51; refine (HC1.out _).mono ?_; rintro e w5 ⟨rfl, b5⟩))
        have bw5 := bw4.trans (b5.mono bw4.size)
        have aW5 := aW4.below b5
        have a75 := a74.below b5
        clear b5 bw4 aW4 a74 a9 tq
        by_cases htx : t < Cm.le x
        · have hv : Z = 6 := by rw [HM.out, if_neg (by simp [hut]), if_pos htx]
          have tc := Lib.hid (show decide ((0 : Int) < cmpN (Cm.le x) t) = true by rw [cmpN_pos]; simpa using htx)
          replace hv := Lib.hid hv
          clear hut htx
          refine wp_region_rel [] Ext (by kernel_rfl) (by kernel_rfl) (by kernel_rfl) Ext.refl Ext.trans (by intro p hp; cases hp) ?_
          refine relPure Ext.refl rfl rfl rfl rfl (c := .agg (x.map bv).toArray) (fun w hw => exec_loadAv (aW5.below hw.drew) _ _ rfl rfl _ 32 x32.out Tryd.underlying24 rfl (by kernel_rfl)) (by simp only [List.set_cons_succ, List.set_cons_zero]; rfl) ?_
          refine relCall1 rfl rfl rfl rfl (c := .agg (uc (Cm.le x)).toArray) 52 #[.agg (x.map bv).toArray] (fun w => by go_simp) (fun w hw => (HNm.out w).mono ?_) (by simp only [List.set_cons_succ, List.set_cons_zero]; rfl) ?_
          · rintro e w' ⟨rfl, b⟩
            exact ⟨rfl, b⟩
          refine relPure Ext.refl rfl rfl rfl rfl (c := .agg (uc t).toArray) (fun w hw => exec_loadAv (a75.below hw.drew) _ _ rfl rfl _ 4 (uc_lenR t) Tryd.underlying81 rfl (by kernel_rfl)) (by simp only [List.set_cons_succ, List.set_cons_zero]; rfl) ?_
          refine relCall1 rfl rfl rfl rfl (c := .int .i64 (cmpN (Cm.le x) t)) 51 #[.agg (uc (Cm.le x)).toArray, .agg (uc t).toArray] (fun w => by go_simp) (fun w hw => (HC2.out w).mono ?_) (by simp only [List.set_cons_succ, List.set_cons_zero]; rfl) ?_
          · rintro e w' ⟨rfl, b⟩
            exact ⟨rfl, b⟩
          refine relPure Ext.refl rfl rfl rfl rfl (c := .bool true) (fun w _ => by have := tc.out; go_simp; first | done | rfl) (by simp only [List.set_cons_succ, List.set_cons_zero]; rfl) ?_
          refine relEnd fun w6 hw6 => fill_end ?_
          have b6 := bw5.trans (hw6.drew.mono bw5.size)
          clear hw6
          go_wp2
          go_ret
          exact ⟨by rw [hv.out]; rfl, b6⟩
        · have hv : Z = 0 := by rw [HM.out, if_neg (by simp [hut]), if_neg htx]
          have tc := Lib.hid (show decide ((0 : Int) < cmpN (Cm.le x) t) = false by rw [cmpN_pos]; simpa using htx)
          replace hv := Lib.hid hv
          clear hut htx
          refine wp_region_rel [] Ext (by kernel_rfl) (by kernel_rfl) (by kernel_rfl) Ext.refl Ext.trans (by intro p hp; cases hp) ?_
          refine relPure Ext.refl rfl rfl rfl rfl (c := .agg (x.map bv).toArray) (fun w hw => exec_loadAv (aW5.below hw.drew) _ _ rfl rfl _ 32 x32.out Tryd.underlying24 rfl (by kernel_rfl)) (by simp only [List.set_cons_succ, List.set_cons_zero]; rfl) ?_
          refine relCall1 rfl rfl rfl rfl (c := .agg (uc (Cm.le x)).toArray) 52 #[.agg (x.map bv).toArray] (fun w => by go_simp) (fun w hw => (HNm.out w).mono ?_) (by simp only [List.set_cons_succ, List.set_cons_zero]; rfl) ?_
          · rintro e w' ⟨rfl, b⟩
            exact ⟨rfl, b⟩
          refine relPure Ext.refl rfl rfl rfl rfl (c := .agg (uc t).toArray) (fun w hw => exec_loadAv (a75.below hw.drew) _ _ rfl rfl _ 4 (uc_lenR t) Tryd.underlying81 rfl (by kernel_rfl)) (by simp only [List.set_cons_succ, List.set_cons_zero]; rfl) ?_
          refine relCall1 rfl rfl rfl rfl (c := .int .i64 (cmpN (Cm.le x) t)) 51 #[.agg (uc (Cm.le x)).toArray, .agg (uc t).toArray] (fun w => by go_simp) (fun w hw => (HC2.out w).mono ?_) (by simp only [List.set_cons_succ, List.set_cons_zero]; rfl) ?_
          · rintro e w' ⟨rfl, b⟩
            exact ⟨rfl, b⟩
          refine relPure Ext.refl rfl rfl rfl rfl (c := .bool false) (fun w _ => by have := tc.out; go_simp; first | done | rfl) (by simp only [List.set_cons_succ, List.set_cons_zero]; rfl) ?_
          refine relEnd fun w6 hw6 => fill_end ?_
          have b6 := bw5.trans (hw6.drew.mono bw5.size)
          clear hw6
          go_wp2
          go_ret
          exact ⟨by rw [hv.out]; rfl, b6⟩
    · have t1 : ((q : Int) != 0) = true := by simp; omega
      have hv : Z = 7 := by rw [HM.out, if_pos (Or.inr (Or.inl hq))]
      replace hv := Lib.hid hv
      clear hq
      go_wp2
      go_ret
      exact ⟨by rw [hv.out]; rfl, bw4⟩
  · have t1 : ((p : Int) != 0) = true := by simp; omega
    have hv : Z = 7 := by rw [HM.out, if_pos (Or.inl hp)]
    replace hv := Lib.hid hv
    clear hp
    go_wp2
    go_ret
    exact ⟨by rw [hv.out]; rfl, bw4⟩
end Go.Proofs.YtjgdmpbaikhflaaDoor
/- florinref07.four. -/
namespace Go.Proofs.YtjgdmpbaikhflaaDoor
open Go.RowKit
set_option maxRecDepth 10000 in
set_option maxHeartbeats 1000000 in
theorem RFour (n : Nat) (_ : n < 4294967296) (w : World) :
    Calls Tryd.prog 39 #[.int .u32 (n : Int)] w fun e w' => (∃ A c, e = .returned (.slice A 4 c) ∧ OwnB w' w.heap.size (.slice A 4 c) (Cm.lo 4 n)) ∧ Below w.heap.size w w' := by
  have e0 : IntKind.u8.wrap (n : Int) = ((n % 256 : Nat) : Int) := by rw [IntKind.wrap_u8]; omega
  have e1 : IntKind.u8.wrap ((n : Int) / 256) = ((n / 256 % 256 : Nat) : Int) := by rw [IntKind.wrap_u8]; omega
  have e2 : IntKind.u8.wrap ((n : Int) / 65536) = ((n / 65536 % 256 : Nat) : Int) := by rw [IntKind.wrap_u8]; omega
  have e3 : IntKind.u8.wrap ((n : Int) / 16777216) = ((n / 16777216 % 256 : Nat) : Int) := by rw [IntKind.wrap_u8]; omega
  go_enter Tryd.func39, Tryd.ntmps39
  go_wp2
  go_ret
  have hc : (#[Value.int .u8 ((n : Int) % 256), .int .u8 ((n : Int) / 256 % 256), .int .u8 ((n : Int) / 65536 % 256), .int .u8 ((n : Int) / 16777216 % 256)] : Array Value) = ((Cm.lo 4 n).map bv).toArray := by
    simp [Cm.lo, bv]
    omega
  rw [hc]
  refine ⟨⟨_, _, rfl, ?_⟩, (Below.refl _ _).alloc (Nat.le_refl _) _⟩
  have := World.ownsRow_lit (base := w.heap.size) (e := 5) (size := 1) w ((Cm.lo 4 n).map bv).toArray 4 (Nat.le_refl _) (by decide) (by simp [Cm.lo])
  simpa [OwnB, Cm.lo] using this
end Go.Proofs.YtjgdmpbaikhflaaDoor
