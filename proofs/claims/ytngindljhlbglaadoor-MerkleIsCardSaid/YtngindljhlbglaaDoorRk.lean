/- florinref10.Root. -/
import Derived.Test.YtngindljhlbglaaDoorRi
namespace Go.Proofs.YtngindljhlbglaaDoor
open Go.RowKit
theorem LvAt.cellOfR {w : World} {ps : List (Option Addr × Nat)} {ls : List (List (List UInt8))} {bb off : Nat} (h : Rd w (some ⟨bb, off, none⟩) (scl ps ls)) (hl : LvAt w ps ls) (j : Nat) (x : List (List UInt8)) (hx : ls[j]? = some x) :
    w.cell? ⟨bb, off + j, none⟩ = some (.slice (ps.getD j (none, 0)).1 x.length (ps.getD j (none, 0)).2) ∧ Rd w (ps.getD j (none, 0)).1 (hcl x) := by
  have hj : j < ps.length := by rw [hl.1]; exact (List.getElem?_eq_some_iff.1 hx).1
  have hp : ps[j]? = some (ps.getD j (none, 0)) := by rw [List.getD_eq_getElem?_getD, List.getElem?_eq_getElem hj]; rfl
  refine ⟨?_, (hl.2 j _ x hp hx).1⟩
  have hc := scl_get ps ls j _ x hp hx
  rcases h with h | ⟨b, o, hA, h⟩
  · rw [h] at hc; simp at hc
  · cases hA
    exact h j _ hc
theorem scl_neR (ps : List (Option Addr × Nat)) (ls : List (List (List UInt8))) (h : ps.length = ls.length) (h0 : 0 < ls.length) : scl ps ls ≠ [] := by
  intro e
  have := scl_length ps ls h
  rw [e] at this
  simp at this
  omega
theorem mRootOf_lengthR (l : List (List UInt8)) (h : All32 l) : (mRootOf (mLv l)).length = 32 := by
  have := mRootOf_length l h (mLv l).length
  rwa [List.take_of_length_le (Nat.le_refl _)] at this
theorem rlv_head (f : Nat) (l : List (List UInt8)) : (mLvF f l)[0]? = some l := by
  cases f with
  | zero => rfl
  | succ f => rw [mLvF]; split <;> rfl
theorem rlv_next : ∀ (f : Nat) (l : List (List UInt8)) (h : Nat) (x y : List (List UInt8)), (mLvF f l)[h]? = some x → (mLvF f l)[h + 1]? = some y → y = mUp x ∧ 1 < x.length
  | 0, l, h, x, y, _, hy => by rw [mLvF] at hy; simp at hy
  | f + 1, l, h, x, y, hx, hy => by
    rw [mLvF] at hx hy
    split at hx
    · rename_i h1
      rw [if_pos h1] at hy
      simp at hy
    · rename_i h1
      rw [if_neg h1] at hy
      rw [List.getElem?_cons_succ] at hy
      cases h with
      | zero =>
        obtain rfl : l = x := by simpa using hx
        rw [rlv_head] at hy
        injection hy with hy
        exact ⟨hy.symm, by omega⟩
      | succ h =>
        rw [List.getElem?_cons_succ] at hx
        exact rlv_next f (mUp l) h x y hx hy
theorem rlv_last : ∀ (f : Nat) (l : List (List UInt8)) (h : Nat) (x : List (List UInt8)), l.length ≤ 2 ^ f → (mLvF f l)[h]? = some x → (mLvF f l).length = h + 1 → x.length ≤ 1
  | 0, l, h, x, hl, hx, hn => by
    rw [mLvF] at hx hn
    obtain rfl : h = 0 := by simp at hn; omega
    obtain rfl : l = x := by simpa using hx
    simpa using hl
  | f + 1, l, h, x, hl, hx, hn => by
    rw [mLvF] at hx hn
    split at hx
    · rename_i h1
      rw [if_pos h1] at hn
      obtain rfl : h = 0 := by simp at hn; omega
      obtain rfl : l = x := by simpa using hx
      exact h1
    · rename_i h1
      rw [if_neg h1, List.length_cons] at hn
      have hn' : (mLvF f (mUp l)).length = h := by omega
      cases h with
      | zero => cases f with
        | zero => simp [mLvF] at hn'
        | succ f => rw [mLvF] at hn'; split at hn' <;> simp at hn'
      | succ h =>
        rw [List.getElem?_cons_succ] at hx
        exact rlv_last f (mUp l) h x (by rw [mUp_length]; rw [Nat.pow_succ] at hl; omega) hx hn'
theorem results_cellAv1R {fn : Func} {p u : Tmp} {ty : TypeId} (h : fn.results = #[.cell p ty, .tmp u]) {tmps : Array Value} {P : Program} {w : World} {g : Nat} {t : TypeId} {C : List Value} (hp : tmps.getD p undef = .pointer (some ⟨g, 0, none⟩)) (ha : Av w g t C) (d : TypeDesc) (hu : P.underlying ty = some d) (hd : d.isRow = true)
    (n : Nat) (hn : C.length = n) (hi : (P.info? ty).map (·.size) = some n) :
    (results fn tmps).run P w = .ok (.tuple #[.agg C.toArray, tmps.getD u undef]) w := by
  rw [results_cell_tmp h, hp]
  simp only [asAddr, Sem.run_pure, Result.andThen_ok, run_loadVar_row w g t ty _ _ d ha hu (by cases d <;> first | rfl | (simp [TypeDesc.isRow] at hd)) (by rw [List.size_toArray, hn]; exact hi)]
set_option maxRecDepth 10000 in
set_option maxHeartbeats 4000000 in
theorem RootR (l : List (List UInt8)) (h32 : All32 l) (A0 : Option Addr) (m c0 : Nat) (hm : l.length = m) (w : World) (hr : Rd w A0 (hcl l)) :
    Calls Tryd.prog 18 #[.slice A0 m c0] w fun e w' => e = .returned (.tuple #[.agg (hcs (mRootOf (mLv l))), .bool (mAlike (mLv l))]) ∧ Below w.heap.size w w' := by
  have hz := zeros_32
  have hzl : (List.replicate 32 (0 : UInt8)).length = 32 := by simp
  obtain ⟨zs, hzs⟩ : ∃ zs : List UInt8, zs = List.replicate 32 0 := ⟨_, rfl⟩
  rw [← hzs] at hz hzl
  replace hzl := Lib.hid hzl
  have HL := Lib.hid (fun w hr => LevelsR l h32 A0 m c0 hm w hr)
  have hlen13 := mLv_len l
  have hmem := Lib.hid (fun x hx => mLv_mem l h32 x hx)
  have hrl := mRootOf_lengthR l h32
  generalize mLv l = lv at *
  obtain ⟨q, hq⟩ : ∃ q, lv.length = q := ⟨_, rfl⟩
  obtain ⟨rt, hrt⟩ : ∃ r, r = mRootOf lv := ⟨_, rfl⟩
  obtain ⟨al, hal⟩ : ∃ r, r = mAlike lv := ⟨_, rfl⟩
  rw [← hrt] at hrl
  rw [← hrt, ← hal]
  rw [hq] at hlen13
  rw [hq] at HL
  replace hq := Lib.hid hq
  replace hrt := Lib.hid hrt
  replace hal := Lib.hid hal
  replace hrl := Lib.hid hrl
  replace hzs := Lib.hid hzs
  go_enter Tryd.func18, Tryd.ntmps18
  have b0 := (Below.refl w.heap.size w).alloc (Nat.le_refl _) (.cells (zs.map bv).toArray 25)
  have a0 : Av (w.alloc (.cells (zs.map bv).toArray 25)) w.heap.size 25 (zs.map bv) := heap_alloc_new _ _
  go_wp2_with fail
  generalize w.alloc (.cells (zs.map bv).toArray 25) = w0 at *
  refine (HL.out w0 (hr.below b0)).mono ?_
  rintro e w2 ⟨v, ps, rfl, ob, lv2, _, b2⟩
  obtain ⟨Av1, cv, rfl, hcv, _⟩ := own_form ob
  replace a0 := a0.below b2
  replace b2 := b0.trans (b2.mono b0.size)
  clear HL b0
  by_cases hq0 : q = 0
  · subst hq0
    obtain rfl : lv = [] := List.eq_nil_of_length_eq_zero hq.out
    have hr0 : rt = zs := by rw [hrt.out, hzs.out]; rfl
    have hal0 : al = false := by rw [hal.out]; rfl
    subst hr0 hal0
    go_wp2_with (refine wpList_storeAv b2 a0 (Nat.le_refl _) rfl _ _ _ rfl rfl (rt.map bv) (by first | rfl | exact congrArg Value.agg hz) 32 (by rw [List.length_map, hzl.out]) (by kernel_rfl) (by rw [List.size_toArray, List.length_map]; exact hzl.out) (by simp [Value.oneCell']) ?_; intro w6 a6 b6 k6 s6)
    refine bodyPost_ret (results_cellAv1R rfl rfl a6 _ Tryd.underlying25 rfl 32 (by rw [List.length_map, hzl.out]) (by kernel_rfl)) rfl ⟨rfl, b6⟩
  · have t0 : ((q : Int) == 0) = false := by simp; omega
    have q0 : 0 < q := by omega
    obtain ⟨bb, off, rfl⟩ := (own_rd ob).someA (scl_neR ps lv lv2.1 (by rw [hq.out]; exact q0))
    have HX := Lib.hid (fun (h : Nat) (x : List (List UInt8)) (hx : lv[h]? = some x) w' (hE : Below w2.heap.size w2 w') => LvAt.cellOfR (own_rd (own_below ob hE)) (lv2.below hE) h x hx)
    clear lv2 ob
    obtain ⟨wz, hwz⟩ : ∃ wz : World, wz = w2 := ⟨_, rfl⟩
    go_wp2
    go_loopw [5, 6, 7] (fun al i _ wr => ∃ h : Nat, h ≤ q ∧ i = .int .i64 (h : Int) ∧ al = .bool (mAlike (lv.take h)) ∧ Below w2.heap.size w2 wr) (fun _ i _ _ => q - (intOf i).toNat)
    case atStart => exact ⟨0, by omega, rfl, by rfl, Below.refl _ _⟩
    case round =>
      obtain ⟨h, hh, rfl, rfl, bw⟩ := hrel
      by_cases hlt : h < q
      · have t4 : decide ((h : Int) < (q : Int)) = true := by simp; omega
        obtain ⟨x, hx⟩ : ∃ x, lv[h]? = some x := ⟨_, List.getElem?_eq_getElem (by rw [hq.out]; exact hlt)⟩
        obtain ⟨hx32, hx0, hx4⟩ := hmem.out x (List.mem_of_getElem? hx)
        have hsn := mAlike_snoc lv h x hx
        obtain ⟨ax, hax⟩ : ∃ a, a = mAlike (lv.take h) := ⟨_, rfl⟩
        rw [← hax] at hsn ⊢
        obtain ⟨nx, hnx⟩ : ∃ nx, x.length = nx := ⟨_, rfl⟩
        obtain ⟨Ax, hAx⟩ : ∃ Ax, Ax = (ps.getD h (none, 0)).1 := ⟨_, rfl⟩
        obtain ⟨cx, hcx⟩ : ∃ cx, cx = (ps.getD h (none, 0)).2 := ⟨_, rfl⟩
        have HC : ∀ w', Below w2.heap.size w2 w' → w'.cell? ⟨bb, off + h, none⟩ = some (.slice Ax nx cx) ∧ Rd w' Ax (hcl x) := fun w' hE => by
          have := HX.out h x hx w' hE
          rw [hnx, ← hAx, ← hcx] at this
          exact this
        rw [hnx] at hx0 hx4
        clear hx hAx hcx
        obtain ⟨bx, ox, rfl⟩ := (HC wr bw).2.someA (hcl_ne hx32 (by rw [hnx]; exact hx0))
        replace HC := Lib.hid HC
        replace hnx := Lib.hid hnx
        replace hsn := Lib.hid hsn
        replace hax := Lib.hid hax
        have n0 : 0 ≤ (h : Int) := by omega
        have n1 : (h : Int) < (q : Int) := by omega
        go_wp2
        go_loopw [5, 7] (fun al i wr => ∃ k : Nat, 2 * k ≤ nx + 1 ∧ i = .int .i64 ((2 * k : Nat) : Int) ∧ al = .bool (ax || mAlike1 (x.take (2 * k))) ∧ Below w2.heap.size w2 wr) (fun _ i _ => nx + 1 - (intOf i).toNat)
        case atStart => exact ⟨0, by omega, rfl, by simp [mAlike1], bw⟩
        case round =>
          clear bw
          obtain ⟨k, hk, rfl, rfl, bw⟩ := hrel
          have c1 := (HC.out wr bw).1
          have m0 : 0 ≤ 2 * (k : Int) := by omega
          have m4 : (2 * (k : Int)).toNat = 2 * k := by omega
          have m6 : IntKind.i64.wrap (2 * (k : Int) + 1) = 2 * (k : Int) + 1 := by rw [IntKind.wrap_i64]; omega
          have m7 : (2 * (k : Int) + 1).toNat = 2 * k + 1 := by omega
          have h2k : ((2 * (k + 1) : Nat) : Int) = 2 * (k : Int) + 2 := by omega
          by_cases hlk : 2 * k + 1 < nx
          · have t5 : decide (((2 * k : Nat) : Int) + 1 < (nx : Int)) = true := by simp; omega
            have hs2 := mAlike1_snoc x k (by rw [hnx.out]; exact hlk)
            obtain ⟨y, hy⟩ : ∃ y, y = x.getD (2 * k) [] := ⟨_, rfl⟩
            obtain ⟨z, hz'⟩ : ∃ z, z = x.getD (2 * k + 1) [] := ⟨_, rfl⟩
            have hy32 : y.length = 32 := by rw [hy]; exact hx32.get _ (by rw [hnx.out]; omega)
            have hz32 : z.length = 32 := by rw [hz']; exact hx32.get _ (by rw [hnx.out]; omega)
            have H1 : ∀ w', Ext wr.drew w' → Below w2.heap.size w2 w' := fun w' hE => bw.trans (hE.drew.mono bw.size)
            have hry := Lib.hid (fun w' (hE : Below w2.heap.size w2 w') => hy ▸ (HC.out w' hE).2.hash hx32 (2 * k) (by rw [hnx.out]; omega))
            have hrz := Lib.hid (fun w' (hE : Below w2.heap.size w2 w') => hz' ▸ (HC.out w' hE).2.hash hx32 (2 * k + 1) (by rw [hnx.out]; omega))
            rw [← hy, ← hz'] at hs2
            have heq := eqlH y z hy32 hz32
            clear hy hz'
            obtain ⟨yz, hyz⟩ : ∃ b, b = (y == z) := ⟨_, rfl⟩
            rw [← hyz] at heq hs2
            clear hyz
            have m1 : 2 * (k : Int) < (nx : Int) := by omega
            have m2 : 0 ≤ 2 * (k : Int) + 1 := by omega
            have m3 : 2 * (k : Int) + 1 < (nx : Int) := by omega
            obtain ⟨ac, hac⟩ : ∃ b, b = (ax || mAlike1 (x.take (2 * k))) := ⟨_, rfl⟩
            have hs3 : (ax || mAlike1 (x.take (2 * (k + 1)))) = (ac || yz) := by rw [hs2, hac, Bool.or_assoc]
            rw [← hac]
            clear hac hs2
            replace hs3 := Lib.hid hs3
            go_upto_region 11 with fail
            clear c1
            cases ac
            · refine wp_region_rel [] Ext (by kernel_rfl) (by kernel_rfl) (by kernel_rfl) Ext.refl Ext.trans (by intro p hp; cases hp) ?_
              refine relMove Ext.refl rfl rfl rfl rfl _ (.inl rfl) (by conv => lhs; whnf) (by simp only [List.set_cons_succ, List.set_cons_zero]; rfl) ?_
              refine relMove Ext.refl rfl rfl rfl rfl _ (.inl rfl) (by conv => lhs; whnf) (by simp only [List.set_cons_succ, List.set_cons_zero]; rfl) ?_
              refine relMove Ext.refl rfl rfl rfl rfl _ (.inl rfl) (by conv => lhs; whnf) (by simp only [List.set_cons_succ, List.set_cons_zero]; rfl) ?_
              refine relMove Ext.refl rfl rfl rfl rfl _ (.inl rfl) (by conv => lhs; whnf) (by simp only [List.set_cons_succ, List.set_cons_zero]; rfl) ?_
              refine relPure Ext.refl rfl rfl rfl rfl (fun w _ => by go_simp; first | done | rfl) (by simp only [List.set_cons_succ, List.set_cons_zero]; rfl) ?_
              refine relPure Ext.refl rfl rfl rfl rfl (c := .slice (some ⟨bx, ox, none⟩) nx cx) (fun w hw => by have := (HC.out w (H1 w hw)).1; go_simp; first | done | rfl) (by simp only [List.set_cons_succ, List.set_cons_zero]; rfl) ?_
              refine relMove Ext.refl rfl rfl rfl rfl _ (.inl rfl) (by conv => lhs; whnf) (by simp only [List.set_cons_succ, List.set_cons_zero]; rfl) ?_
              refine relPure Ext.refl rfl rfl rfl rfl (fun w _ => by go_simp; first | done | rfl) (by simp only [List.set_cons_succ, List.set_cons_zero]; rfl) ?_
              refine relPure Ext.refl rfl rfl rfl rfl (c := .agg (hcs y)) (fun w hw => exec_load_mid _ _ rfl bx (ox + 2 * k * 32) rfl (y.map bv) _ (hry.out w (H1 w hw)) Tryd.underlying25 rfl (by rw [List.length_map, hy32]; kernel_rfl)) (by simp only [List.set_cons_succ, List.set_cons_zero]; rfl) ?_
              refine relMove Ext.refl rfl rfl rfl rfl _ (.inl rfl) (by conv => lhs; whnf) (by simp only [List.set_cons_succ, List.set_cons_zero]; rfl) ?_
              refine relMove Ext.refl rfl rfl rfl rfl _ (.inl rfl) (by conv => lhs; whnf) (by simp only [List.set_cons_succ, List.set_cons_zero]; rfl) ?_
              refine relPure Ext.refl rfl rfl rfl rfl (fun w _ => by go_simp; first | done | rfl) (by simp only [List.set_cons_succ, List.set_cons_zero]; rfl) ?_
              refine relPure Ext.refl rfl rfl rfl rfl (c := .slice (some ⟨bx, ox, none⟩) nx cx) (fun w hw => by have := (HC.out w (H1 w hw)).1; go_simp; first | done | rfl) (by simp only [List.set_cons_succ, List.set_cons_zero]; rfl) ?_
              refine relMove Ext.refl rfl rfl rfl rfl _ (.inl rfl) (by conv => lhs; whnf) (by simp only [List.set_cons_succ, List.set_cons_zero]; rfl) ?_
              refine relPure Ext.refl rfl rfl rfl rfl (fun w _ => by go_simp; first | done | rfl) (by simp only [List.set_cons_succ, List.set_cons_zero]; rfl) ?_
              refine relPure Ext.refl rfl rfl rfl rfl (fun w _ => by go_simp; first | done | rfl) (by simp only [List.set_cons_succ, List.set_cons_zero]; rfl) ?_
              refine relPure Ext.refl rfl rfl rfl rfl (c := .agg (hcs z)) (fun w hw => exec_load_mid _ _ rfl bx (ox + (2 * k + 1) * 32) rfl (z.map bv) _ (hrz.out w (H1 w hw)) Tryd.underlying25 rfl (by rw [List.length_map, hz32]; kernel_rfl)) (by simp only [List.set_cons_succ, List.set_cons_zero]; rfl) ?_
              refine relPure Ext.refl rfl rfl rfl rfl (c := .bool yz) (fun w _ => by go_simp; first | done | rfl) (by simp only [List.set_cons_succ, List.set_cons_zero]; rfl) ?_
              refine relPick Ext.refl rfl rfl rfl rfl _ _ _ rfl rfl (c := .bool yz) rfl (by simp only [List.set_cons_succ, List.set_cons_zero]; rfl) ?_
              refine relMove Ext.refl rfl rfl rfl rfl _ (.inr rfl) (by conv => lhs; whnf) (by simp only [List.set_cons_succ, List.set_cons_zero]; rfl) ?_
              refine relEnd fun w6 hw6 => fill_end ?_
              have bw6 := H1 w6 hw6
              go_wp2
              refine ⟨⟨k + 1, by omega, by rw [h2k], by rw [hs3.out]; rfl, bw6⟩, ?_⟩
              simp only [intOf]; omega
            · refine wp_region_rel [] Ext (by kernel_rfl) (by kernel_rfl) (by kernel_rfl) Ext.refl Ext.trans (by intro p hp; cases hp) ?_
              refine relMove Ext.refl rfl rfl rfl rfl _ (.inl rfl) (by conv => lhs; whnf) (by simp only [List.set_cons_succ, List.set_cons_zero]; rfl) ?_
              refine relMove Ext.refl rfl rfl rfl rfl _ (.inl rfl) (by conv => lhs; whnf) (by simp only [List.set_cons_succ, List.set_cons_zero]; rfl) ?_
              iterate 16 (refine relSkip rfl rfl rfl rfl (by simp only [List.set_cons_succ, List.set_cons_zero]; rfl) ?_)
              refine relPick Ext.refl rfl rfl rfl rfl _ _ _ rfl rfl (c := .bool true) rfl (by simp only [List.set_cons_succ, List.set_cons_zero]; rfl) ?_
              refine relMove Ext.refl rfl rfl rfl rfl _ (.inr rfl) (by conv => lhs; whnf) (by simp only [List.set_cons_succ, List.set_cons_zero]; rfl) ?_
              refine relEnd fun w6 hw6 => fill_end ?_
              have bw6 := H1 w6 hw6
              go_wp2
              refine ⟨⟨k + 1, by omega, by rw [h2k], by rw [hs3.out]; rfl, bw6⟩, ?_⟩
              simp only [intOf]; omega
          · have t5 : decide (((2 * k : Nat) : Int) + 1 < (nx : Int)) = false := by simp; omega
            have hs2 := mAlike1_short x k (by rw [hnx.out]; omega)
            rw [hs2]
            replace hs2 := Lib.hid hs2
            go_wp2
            refine ⟨⟨h + 1, by omega, by go_num, by rw [hsn.out], bw⟩, ?_⟩
            simp [intOf]; omega
      · obtain rfl : h = q := by omega
        have t4 : decide ((h : Int) < (h : Int)) = false := by simp
        rw [List.take_of_length_le (by rw [hq.out]; exact Nat.le_refl _), ← hal.out]
        obtain ⟨x, hx⟩ : ∃ x, lv[h - 1]? = some x := ⟨_, List.getElem?_eq_getElem (by rw [hq.out]; omega)⟩
        obtain ⟨hx32, hx0, hx4⟩ := hmem.out x (List.mem_of_getElem? hx)
        have hlast : rt = x.getD 0 [] := by
          rw [hrt.out]
          have := mRootOf_snoc lv (h - 1) x hx
          rwa [List.take_of_length_le (by rw [hq.out]; omega)] at this
        obtain ⟨c1, r1⟩ := HX.out (h - 1) x hx wr bw
        obtain ⟨bx, ox, hAx⟩ := r1.someA (hcl_ne hx32 hx0)
        rw [hAx] at c1 r1
        have hrr := r1.hash hx32 0 hx0
        rw [Nat.zero_mul, Nat.add_zero, ← hlast] at hrr
        obtain ⟨nx, hnx⟩ : ∃ nx, x.length = nx := ⟨_, rfl⟩
        rw [hnx] at c1 hx0
        obtain ⟨g, hg⟩ : ∃ g, g = h - 1 := ⟨_, rfl⟩
        rw [← hg] at c1
        have e1 : IntKind.i64.wrap ((h : Int) - 1) = (g : Int) := by rw [IntKind.wrap_i64]; omega
        have e2 : 0 ≤ (g : Int) := by omega
        have e3 : (g : Int) < (h : Int) := by omega
        have e4 : (0 : Int) < (nx : Int) := by omega
        have e5 : (h : Int) - 1 = (g : Int) := by omega
        have e6 : 0 ≤ (h : Int) - 1 := by omega
        have e7 : (h : Int) - 1 < (h : Int) := by omega
        have e8 : ((h : Int) - 1).toNat = g := by omega
        have a6 := a0.below bw
        have b6 := b2.trans (bw.mono b2.size)
        clear hg hx hnx hlast hAx hx4
        go_wp2_with (first
          | (refine wpList_load_mid rfl _ _ rfl bx ox rfl (rt.map bv) _ hrr Tryd.underlying25 rfl (by rw [List.length_map, hrl.out]; kernel_rfl) ?_)
          | (refine wpList_storeAv b6 a6 (Nat.le_refl _) rfl _ _ _ rfl rfl (rt.map bv) rfl 32 (by rw [List.length_map, hrl.out]) (by kernel_rfl) (by rw [List.size_toArray, List.length_map]; exact hzl.out) (by simp [Value.oneCell']) ?_; intro w7 a7 b7 k7 s7))
        refine bodyPost_ret (results_cellAv1R rfl rfl a7 _ Tryd.underlying25 rfl 32 (by rw [List.length_map, hrl.out]) (by kernel_rfl)) rfl ⟨rfl, b7⟩
end Go.Proofs.YtngindljhlbglaaDoor
