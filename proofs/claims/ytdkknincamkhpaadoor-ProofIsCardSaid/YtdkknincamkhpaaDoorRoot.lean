/- merkle.Root. -/
import Derived.Test.YtdkknincamkhpaaDoorPr8
namespace Go.Proofs.YtdkknincamkhpaaDoor
open Go.RowKit Go.Shelf
attribute [local go_sem] Oper.semAt_some

theorem eqlH (x y : List UInt8) (hx : x.length = 32) (hy : y.length = 32) (w : World) : (binOp .eql 28 (.agg (hcs x)) (.agg (hcs y))).run Tryd.prog w = .ok (.bool (x == y)) w :=
  run_eql_bytes w 28 5 32 Tryd.underlying28 Tryd.underlying5 sizeOf_u8 x y hx hy
/-- are two neighbours that are paired alike? -/
def mAlike1 : List (List UInt8) → Bool
  | x :: y :: r => (x == y) || mAlike1 r
  | _ => false
def mAlike (ls : List (List (List UInt8))) : Bool := ls.any mAlike1
/-- the last level's first -/
def mRootOf (ls : List (List (List UInt8))) : List UInt8 := (ls.getLast?.map fun x => x.getD 0 []).getD (List.replicate 32 0)
theorem mAlike1_snoc : ∀ (x : List (List UInt8)) (k : Nat), 2 * k + 1 < x.length → mAlike1 (x.take (2 * (k + 1))) = (mAlike1 (x.take (2 * k)) || (x.getD (2 * k) [] == x.getD (2 * k + 1) []))
  | [], k, h => by simp at h
  | [_], k, h => by simp at h
  | a :: b :: r, 0, _ => by simp [mAlike1]
  | a :: b :: r, k + 1, h => by
    rw [show 2 * (k + 1 + 1) = 2 * (k + 1) + 1 + 1 by omega, show 2 * (k + 1) + 1 = 2 * k + 1 + 1 + 1 by omega, show 2 * (k + 1) = 2 * k + 1 + 1 by omega]
    simp only [List.take_succ_cons, mAlike1, List.getD_cons_succ, Bool.or_assoc]
    rw [show 2 * k + 1 + 1 = 2 * (k + 1) by omega, mAlike1_snoc r k (by simp at h; omega)]
theorem mAlike1_short : ∀ (x : List (List UInt8)) (k : Nat), x.length ≤ 2 * k + 1 → mAlike1 (x.take (2 * k)) = mAlike1 x
  | [], k, _ => by simp
  | [a], 0, _ => by simp [mAlike1]
  | [a], k + 1, _ => by rw [List.take_of_length_le (by simp; omega)]
  | a :: b :: r, 0, h => by simp at h
  | a :: b :: r, k + 1, h => by
    rw [show 2 * (k + 1) = 2 * k + 1 + 1 by omega]
    simp only [List.take_succ_cons, mAlike1]
    rw [mAlike1_short r k (by simp at h; omega)]

theorem mLvF_mem : ∀ (f : Nat) (l : List (List UInt8)), All32 l → 0 < l.length → l.length ≤ 4096 → ∀ x ∈ mLvF f l, All32 x ∧ 0 < x.length ∧ x.length ≤ 4096
  | 0, l, h, h0, h1, x, hx => by
    rw [mLvF] at hx
    rw [List.mem_singleton.1 hx]; exact ⟨h, h0, h1⟩
  | f + 1, l, h, h0, h1, x, hx => by
    rw [mLvF] at hx
    split at hx
    · rw [List.mem_singleton.1 hx]; exact ⟨h, h0, h1⟩
    · rcases List.mem_cons.1 hx with hx | hx
      · rw [hx]; exact ⟨h, h0, h1⟩
      · exact mLvF_mem f (mUp l) (mUp_32 l) (by rw [mUp_length]; omega) (by rw [mUp_length]; omega) x hx
theorem mLv_mem (l : List (List UInt8)) (h : All32 l) (x : List (List UInt8)) (hx : x ∈ mLv l) : All32 x ∧ 0 < x.length ∧ x.length ≤ 4096 := by
  unfold mLv at hx
  split at hx
  · cases hx
  · exact mLvF_mem 12 l h (by omega) (by omega) x hx
theorem keepsFrom_below {B : Nat} {W W' : World} (h : Below W.heap.size W W') : KeepsFrom B W W' :=
  ⟨h.size, fun k _ _ hk _ => (h.block k (Array.getElem?_eq_some_iff.1 hk).1).trans hk⟩
theorem Av.grown {W W' : World} {g : Nat} {t : TypeId} {l : List Value} {row : Option Nat} (h : Av W g t l) (hg : W.grownBy W' row) (hrow : ∀ r, row = some r → ∃ o : Obj, W.heap[r]? = some o ∧ o.isCells = false) : Av W' g t l :=
  h.same (grownBy_keeps_cells hg hrow h rfl)
theorem Rd.setOther {w : World} {bb off : Nat} {xs : List Value} (h : Rd w (some ⟨bb, off, none⟩) xs) (a : Addr) (v : Value) (hne : a.block ≠ bb) : Rd (w.setCell a v) (some ⟨bb, off, none⟩) xs := by
  rcases h with h | ⟨b', off', hA, hc⟩
  · exact .inl h
  · cases hA
    exact .inr ⟨_, _, rfl, fun j u hu => (World.cell?_of_block (heap_setCell_other w a bb v (Ne.symm hne))).trans (hc j u hu)⟩
theorem mAlike_snoc (ls : List (List (List UInt8))) (j : Nat) (x : List (List UInt8)) (hx : ls[j]? = some x) : mAlike (ls.take (j + 1)) = (mAlike (ls.take j) || mAlike1 x) := by
  rw [List.take_add_one, hx, mAlike, List.any_append]
  simp [mAlike]
theorem mRootOf_snoc (ls : List (List (List UInt8))) (j : Nat) (x : List (List UInt8)) (hx : ls[j]? = some x) : mRootOf (ls.take (j + 1)) = x.getD 0 [] := by
  rw [List.take_add_one, hx, mRootOf]
  simp
theorem mRootOf_length (l : List (List UInt8)) (h : All32 l) (j : Nat) : (mRootOf ((mLv l).take j)).length = 32 := by
  unfold mRootOf
  cases hg : ((mLv l).take j).getLast? with
  | none => simp
  | some x =>
    have hx := mLv_mem l h x (List.mem_of_mem_take (List.mem_of_getLast? hg))
    exact hx.1.get 0 hx.2.1
set_option maxRecDepth 10000 in
set_option maxHeartbeats 4000000 in
theorem RootAny (l : List (List UInt8)) (h32 : All32 l) (A0 : Option Addr) (m c0 : Nat) (hm : l.length = m) (w : World) (hr : Rd w A0 (hcl l)) (ht : Tabs w) :
    Calls Tryd.prog 27 #[.slice A0 m c0] w fun e w' => e = .returned (.tuple #[.agg (hcs (mRootOf (mLv l))), .bool (mAlike (mLv l))]) ∧ Below w.heap.size w w' := by
  have hz := zeros_32
  have hzl : (List.replicate 32 (0 : UInt8)).length = 32 := by simp
  obtain ⟨zs, hzs⟩ : ∃ zs : List UInt8, zs = List.replicate 32 0 := ⟨_, rfl⟩
  rw [← hzs] at hz hzl
  replace hzs := Lib.hid hzs
  replace hzl := Lib.hid hzl
  replace hm := Lib.hid hm
  refine (callsIn_wide (n := 5)).1 ?_
  refine callsIn_of_wp_marks Tryd.func27 rfl trivial ?_ rfl
  simp only [Tryd.ntmps27, List.size_toArray, List.length_cons, List.length_nil, Nat.reduceAdd, Nat.reduceSub, Array.replicate_succ, Array.replicate_zero, List.push_toArray, List.append_toArray, List.nil_append, List.cons_append]
  refine wpIn_wide.2 ?_
  go_wp2_with (go_at_call 44; refine (levels A0 m c0 _).mono ?_; rintro e w1 ⟨rfl, rfl⟩)
  obtain ⟨W0, hW0⟩ : ∃ W0, W0 = (((w.alloc (.cells (zs.map bv).toArray 28)).alloc (.cells (zs.map bv).toArray 28)).alloc (.cells #[.bool false] 4)).alloc (.cells #[.slice A0 m c0] 23) := ⟨_, rfl⟩
  have e : ∀ (v : World) (o : Obj), (v.alloc o).heap.size = v.heap.size + 1 := fun v o => by simp
  have hsz : W0.heap.size = w.heap.size + 4 := by rw [hW0, e, e, e, e]
  have hB0 : Below w.heap.size w W0 := by rw [hW0]; exact ((((Below.refl _ _).alloc (Nat.le_refl _) _).alloc (by simp) _).alloc (by simp; omega) _).alloc (by simp; omega) _
  have hA0 : Av W0 w.heap.size 28 (zs.map bv) := by rw [hW0]; exact Av.alloc (Av.alloc (heap_alloc2_old _ _ _) _) _
  have hA1 : Av W0 (w.heap.size + 1) 28 (zs.map bv) := by rw [hW0]; exact Av.alloc (Av.alloc (heap_alloc2_new _ _ _) _) _
  have hA2 : Av W0 (w.heap.size + 1 + 1) 4 [.bool false] := by
    rw [hW0]
    refine Av.alloc ?_ _
    have := heap_alloc_new ((w.alloc (.cells (zs.map bv).toArray 28)).alloc (.cells (zs.map bv).toArray 28)) (.cells #[.bool false] 4)
    rw [e, e] at this
    exact this
  have hcb : W0.cell? ⟨w.heap.size + 1 + 1 + 1, 0, none⟩ = some (.slice A0 m c0) := by
    have := heap_alloc_new (((w.alloc (.cells (zs.map bv).toArray 28)).alloc (.cells (zs.map bv).toArray 28)).alloc (.cells #[.bool false] 4)) (.cells #[.slice A0 m c0] 23)
    rw [← hW0, e, e, e] at this
    exact Av.cell (l := [.slice A0 m c0]) this 0 _ rfl
  rw [← hW0]
  clear hW0 hz
  refine wpIn_wide.1 (wpIn_rangeFunc_lv (n := 5) (by omega) (gf := 62) (lb := #[.pointer (some ⟨w.heap.size + 1 + 1 + 1, 0, none⟩)]) rfl (enters_of Tryd.func62 (by kernel_rfl) rfl)
    (levels1_in 4 (by omega) l h32 A0 m c0 hm.out (w.heap.size + 1 + 1 + 1) W0 hcb (hr.below hB0) (by omega)) rfl
    (fun j b W => Av W (w.heap.size + 1) 28 ((mRootOf ((mLv l).take j)).map bv) ∧ Av W (w.heap.size + 1 + 1) 4 [.bool (mAlike ((mLv l).take j))] ∧ Av W w.heap.size 28 (zs.map bv) ∧ Below w.heap.size w W ∧ w.heap.size + 4 ≤ b)
    ?hI (fun j b W h => ht.below h.2.2.2.1) ?h0 (fun v => { tmps := #[.slice A0 m c0, undef, .pointer (some ⟨w.heap.size, 0, none⟩), .bool false, .pointer (some ⟨w.heap.size + 1, 0, none⟩), .pointer (some ⟨w.heap.size + 1 + 1, 0, none⟩), v, undef, .slice A0 m c0, .func (.func 62) #[] #[.pointer (some ⟨w.heap.size + 1 + 1 + 1, 0, none⟩)], v, undef, undef, undef, undef, undef, undef, undef, undef, undef, undef, undef, undef, undef, undef, undef, undef, undef, undef, undef, undef, undef, undef], defers := [] }) ?assign ?body ?done)
  case hI =>
    rintro j b W W' row ⟨i1, i2, i3, i4, i5⟩ hg hrow
    have hrow' : ∀ r, row = some r → ∃ o : Obj, W.heap[r]? = some o ∧ o.isCells = false := fun r e => (hrow r e).2
    exact ⟨i1.grown hg hrow', i2.grown hg hrow', i3.grown hg hrow', i4.grown hg i4.size (fun k e => by have := (hrow k e).1; omega), i5⟩
  case h0 =>
    intro b hb
    refine ⟨?_, hA2, hA0, hB0, by omega⟩
    rw [List.take_zero, mRootOf]
    rw [hzs.out] at hA1
    exact hA1
  case assign =>
    intro l' v W K hK
    gi_wp2
    exact hK
  case body =>
    rintro l' j x b W A c hx ⟨i1, i2, i3, i4, i5⟩ ⟨hrx, hfx⟩ hxc hbW
    obtain ⟨hx32, hx0, hx4⟩ := mLv_mem l h32 x (List.mem_of_getElem? hx)
    obtain ⟨n, hn⟩ : ∃ n, x.length = n := ⟨_, rfl⟩
    obtain ⟨bb, off, rfl⟩ := hrx.someA (hcl_ne hx32 hx0)
    have hbb : b ≤ bb := hfx _ rfl
    have hs1 := mAlike_snoc _ j x hx
    have hs2 := mRootOf_snoc _ j x hx
    have hrl := mRootOf_length l h32 j
    rw [hn] at hx0 hx4 hxc ⊢
    generalize hrt : mRootOf ((mLv l).take j) = rt at *
    generalize hal : mAlike ((mLv l).take j) = al at *
    replace hn := Lib.hid hn
    gi_wp2
    gi_loopw [7] (fun i wr => ∃ k : Nat, 2 * k ≤ n + 1 ∧ i = .int .i64 ((2 * k : Nat) : Int) ∧ KeepsFrom W0.heap.size W wr ∧ Av wr (w.heap.size + 1) 28 (rt.map bv) ∧ Av wr (w.heap.size + 1 + 1) 4 [.bool (al || mAlike1 (x.take (2 * k)))] ∧ Av wr w.heap.size 28 (zs.map bv) ∧ Below w.heap.size w wr ∧ Rd wr (some ⟨bb, off, none⟩) (hcl x)) (fun i _ => n + 1 - (intOf i).toNat)
    case atStart => exact ⟨0, by omega, rfl, KeepsFrom.refl _ _, i1, by simpa [mAlike1] using i2, i3, i4, hrx⟩
    case round =>
      clear i1 i2 i3 i4 hrx
      obtain ⟨k, hk, rfl, hkf, j1, j2, j3, j4, hrw⟩ := hrel
      by_cases hlt : 2 * k + 1 < n
      · have t1 : decide (((2 * k : Nat) : Int) + 1 < (n : Int)) = true := by simp; omega
        have hsn := mAlike1_snoc x k (by rw [hn.out]; exact hlt)
        obtain ⟨y, hy⟩ : ∃ y, y = x.getD (2 * k) [] := ⟨_, rfl⟩
        obtain ⟨z, hz⟩ : ∃ z, z = x.getD (2 * k + 1) [] := ⟨_, rfl⟩
        have hy32 : y.length = 32 := by rw [hy]; exact hx32.get _ (by rw [hn.out]; omega)
        have hz32 : z.length = 32 := by rw [hz]; exact hx32.get _ (by rw [hn.out]; omega)
        have hry := Lib.hid (fun w' (hE : Ext wr.drew w') => hy ▸ (hrw.below hE.drew).hash hx32 (2 * k) (by rw [hn.out]; omega))
        have hrz := Lib.hid (fun w' (hE : Ext wr.drew w') => hz ▸ (hrw.below hE.drew).hash hx32 (2 * k + 1) (by rw [hn.out]; omega))
        rw [← hy, ← hz] at hsn
        have heq := eqlH y z hy32 hz32
        clear hy hz
        replace hsn := Lib.hid hsn
        generalize hyz : (y == z) = yz at heq hsn
        clear hyz
        have n0 : 0 ≤ 2 * (k : Int) := by omega
        have n1 : 2 * (k : Int) < (n : Int) := by omega
        have n2 : 0 ≤ 2 * (k : Int) + 1 := by omega
        have n3 : 2 * (k : Int) + 1 < (n : Int) := by omega
        have n4 : (2 * (k : Int)).toNat = 2 * k := by omega
        have n6 : IntKind.i64.wrap (2 * (k : Int) + 1) = 2 * (k : Int) + 1 := by rw [IntKind.wrap_i64]; omega
        have n5 : (2 * (k : Int) + 1).toNat = 2 * k + 1 := by omega
        gi_wp2
        refine wpIn_region_relT 9 [] Ext (by kernel_rfl) (by kernel_rfl) (by kernel_rfl) (by kernel_rfl) (by kernel_rfl) (by kernel_rfl) Ext.refl Ext.trans (by intro p hp; cases hp) ?_
        refine relMove Ext.refl rfl rfl rfl rfl _ (.inl rfl) (by conv => lhs; whnf) (by simp only [List.set_cons_succ, List.set_cons_zero]; rfl) ?_
        refine relMove Ext.refl rfl rfl rfl rfl _ (.inl rfl) (by conv => lhs; whnf) (by simp only [List.set_cons_succ, List.set_cons_zero]; rfl) ?_
        refine relPure Ext.refl rfl rfl rfl rfl (fun w _ => by go_simp; first | done | rfl) (by simp only [List.set_cons_succ, List.set_cons_zero]; rfl) ?_
        refine relPure Ext.refl rfl rfl rfl rfl (c := .agg (hcs y)) (fun w hw => exec_load_mid _ _ rfl bb (off + 2 * k * 32) rfl (y.map bv) _ (hry.out w hw) Tryd.underlying28 rfl (by rw [List.length_map, hy32]; kernel_rfl)) (by simp only [List.set_cons_succ, List.set_cons_zero]; rfl) ?_
        refine relMove Ext.refl rfl rfl rfl rfl _ (.inl rfl) (by conv => lhs; whnf) (by simp only [List.set_cons_succ, List.set_cons_zero]; rfl) ?_
        refine relMove Ext.refl rfl rfl rfl rfl _ (.inl rfl) (by conv => lhs; whnf) (by simp only [List.set_cons_succ, List.set_cons_zero]; rfl) ?_
        refine relPure Ext.refl rfl rfl rfl rfl (fun w _ => by go_simp; first | done | rfl) (by simp only [List.set_cons_succ, List.set_cons_zero]; rfl) ?_
        refine relPure Ext.refl rfl rfl rfl rfl (fun w _ => by go_simp; first | done | rfl) (by simp only [List.set_cons_succ, List.set_cons_zero]; rfl) ?_
        refine relPure Ext.refl rfl rfl rfl rfl (c := .agg (hcs z)) (fun w hw => exec_load_mid _ _ rfl bb (off + (2 * k + 1) * 32) rfl (z.map bv) _ (hrz.out w hw) Tryd.underlying28 rfl (by rw [List.length_map, hz32]; kernel_rfl)) (by simp only [List.set_cons_succ, List.set_cons_zero]; rfl) ?_
        refine relEnd fun w2 hw2 => fill_end ?_
        simp only [List.drop_succ_cons, List.drop_zero]
        replace hkf := hkf.trans (keepsFrom_below hw2.drew)
        replace j1 := j1.below hw2.drew
        replace j2 := j2.below hw2.drew
        replace j3 := j3.below hw2.drew
        replace j4 := j4.trans (hw2.drew.mono j4.size)
        replace hrw := hrw.below hw2.drew
        go_wp2
        unfold nrm
        have hfz := frozen_of_row _ _ 0 _ _ j2
        have hcl := j2.cell 0 _ rfl
        have h2k : ((2 * (k + 1) : Nat) : Int) = 2 * (k : Int) + 2 := by omega
        cases hb : yz
        · rw [hb] at hsn
          gi_wp2
          refine ⟨⟨k + 1, by omega, by rw [h2k], hkf, j1, ?_, j3, j4, hrw⟩, ?_⟩
          · rw [hsn.out, Bool.or_false]; exact j2
          · simp only [intOf]; omega
        · rw [hb] at hsn
          gi_wp2
          refine ⟨⟨k + 1, by omega, by rw [h2k], hkf.trans ((KeepsOthers.setCell _ _ _).from _), j1.other _ _ (by simp), ?_, j3.other _ _ (by simp only; omega), j4.setCell (by simp only; omega) _, hrw.setOther _ _ (by simp only; omega)⟩, ?_⟩
          · rw [hsn.out, Bool.or_true, Bool.or_true]; exact j2.set 0 _
          · simp only [intOf]; omega
      · have t1 : decide (((2 * k : Nat) : Int) + 1 < (n : Int)) = false := by simp; omega
        obtain ⟨y, hy⟩ : ∃ y, y = x.getD 0 [] := ⟨_, rfl⟩
        have hy32 : y.length = 32 := by rw [hy]; exact hx32.get _ (by rw [hn.out]; omega)
        have hry := hy ▸ hrw.hash hx32 0 (by rw [hn.out]; omega)
        rw [Nat.zero_mul, Nat.add_zero] at hry
        rw [← hy] at hs2
        clear hy
        have n0 : (0 : Int) < (n : Int) := by omega
        have hrt32 : (rt.map bv).length = 32 := by
          rw [List.length_map]
          exact hrl
        gi_wp2_with (
          refine wpListIn_of_wpList l' _ _ _ (by kernel_rfl) ?_
          go_wp2_with (first
            | refine wpList_load_mid rfl _ _ rfl bb off rfl (y.map bv) _ hry Tryd.underlying28 rfl (by rw [List.length_map, hy32]; kernel_rfl) ?_
            | (refine wpList_storeAv j4 j1 (by omega) rfl _ _ _ rfl rfl (y.map bv) rfl 32 (by rw [List.length_map, hy32]) (by kernel_rfl) (by rw [List.size_toArray]; exact hrt32) (by simp [Value.oneCell']) ?_
               intro w3 q1 q4 k3 z3))
          unfold nrm)
        have hw3 : KeepsFrom W0.heap.size wr w3 := ⟨by omega, fun k' _ hk' ho _ => (k3 k' (by omega)).trans ho⟩
        refine ⟨hkf.trans hw3, ?_, ?_, ?_, j3.same (k3 _ (by omega)), q4, by have := j4.size; have := hkf.size; omega⟩
        · rcases hrw with h | ⟨b', off', hA, hc⟩
          · exact .inl h
          · cases hA
            exact .inr ⟨_, _, rfl, fun j' u hu => (World.cell?_of_block (k3 bb (by omega))).trans (hc j' u hu)⟩
        · rw [hs2]; exact q1
        · rw [hs1, ← mAlike1_short x k (by rw [hn.out]; omega)]
          exact j2.same (k3 _ (by omega))
  case done =>
    rintro D W hD ⟨i1, i2, i3, i4, _⟩ hK
    rw [List.take_of_length_le (Nat.le_refl _)] at i1 i2
    have hrl := mRootOf_length l h32 (mLv l).length
    rw [List.take_of_length_le (Nat.le_refl _)] at hrl
    obtain ⟨rt, hrt⟩ : ∃ r, r = mRootOf (mLv l) := ⟨_, rfl⟩
    obtain ⟨al, hal⟩ : ∃ r, r = mAlike (mLv l) := ⟨_, rfl⟩
    rw [← hrt] at i1 hrl
    rw [← hal] at i2
    replace hrt := Lib.hid hrt
    replace hal := Lib.hid hal
    have hrt32 : (rt.map bv).length = 32 := by rw [List.length_map]; exact hrl
    have hcl := i2.cell 0 _ rfl
    go_wp2
    have hst : ∀ (o : Oper) (a : Act) (K : Act → World → Prop) (Q : Exit → Act → World → Prop) (x y : Operand), o.op = .store 28 x y → a.eval x = .pointer (some ⟨w.heap.size, 0, none⟩) → a.eval y = .agg (rt.map bv).toArray →
        (∀ w2, Av w2 w.heap.size 28 (rt.map bv) → Below w.heap.size w w2 → (∀ k, k ≠ w.heap.size → w2.heap[k]? = W.heap[k]?) → K (a.put o.dst undef) w2) → o.wp Tryd.prog a W.drew K Q := by
      intro o a K Q x y ho hx hy hK
      refine wp_store_row 28 x y ho w.heap.size _ hx hy 28 _ i3.drew (by rw [List.size_toArray, hrt32]; kernel_rfl) (by rw [List.size_toArray, List.size_toArray, hrt32, List.length_map, hzl.out]) (by simp [Value.oneCell']) (hK _ ?_ ?_ ?_)
      · exact setRow_heap _ _ _ _ _ _ i3.drew
      · exact below_setRow i4.drew _ _ (Nat.le_refl _)
      · exact fun _ hk => setRow_other _ _ _ _ hk
    have fin : ∀ (a : Act) (w2 : World), a.tmps.getD 2 undef = .pointer (some ⟨w.heap.size, 0, none⟩) → a.tmps.getD 3 undef = .bool al → a.defers = [{ target := .collected D, args := #[] }] → Av w2 w.heap.size 28 (rt.map bv) → Below w.heap.size w w2 → w2.heap[D]? = W.heap[D]? →
        bodyPostM Fence.wide 5 Tryd.prog Tryd.f27 (fun e w' => e = .returned (.tuple #[.agg (hcs (mRootOf (mLv l))), .bool (mAlike (mLv l))]) ∧ Below w.heap.size w w') Exit.ret a w2 := by
      intro a w2 h2 h3 hd q1 q2 q3
      have hK2 := q3.trans hK
      show LeavesInM _ _ _ _ _ _ _ _ _
      rw [hd]
      refine ⟨by simp, .inl ⟨_, _, rfl, run_takeDeferred hK2, ?_⟩⟩
      have q4 : Av (w2.putObj D (.deferred none)) w.heap.size 28 (rt.map bv) := (World.putObj_heap_other (by omega)).trans q1
      refine ⟨_, ?_, rfl, q2.grown (grownBy_putObj' w2 D (.deferred none)) q2.size (fun k e => by cases e; omega)⟩
      rw [results_cell_tmp rfl, h2, h3]
      simp only [asAddr, Sem.run_pure, Result.andThen_ok, run_loadVar_row _ _ _ _ _ _ _ q4 Tryd.underlying28 rfl (by rw [List.size_toArray, hrt32]; kernel_rfl)]
      rw [← hrt.out, ← hal.out]
    have hcd : W.drew.cell? ⟨w.heap.size + 1 + 1, 0, none⟩ = some (.bool al) := hcl
    clear hcl
    refine wp_region_any (by kernel_rfl) ?_
    change wpAny _ _ _ _ _ _ _ W.drew
    refine wpAny_step (rs := [0, 1]) (by kernel_rfl) (by simp) fun i hi => ?_
    simp only [List.mem_cons, List.not_mem_nil, or_false] at hi
    rcases hi with rfl | rfl
    · refine wpOp_run rfl rfl (exec_loadAv i1.drew _ _ rfl rfl _ 32 hrt32 Tryd.underlying28 rfl (by kernel_rfl)) ?_
      refine wpAny_step (rs := [1, 2]) (by kernel_rfl) (by simp) fun i hi => ?_
      simp only [List.mem_cons, List.not_mem_nil, or_false] at hi
      rcases hi with rfl | rfl
      · refine wpOp_run (v := .bool al) rfl rfl (by go_simp) ?_
        refine wpAny_step (rs := [2]) (by kernel_rfl) (by simp) fun i hi => ?_
        obtain rfl := List.mem_singleton.1 hi
        refine wpOp_wp rfl rfl (hst _ _ _ _ _ _ rfl rfl rfl fun w2 q1 q2 q3 => ?_)
        refine wpAny_step (rs := [3]) (by kernel_rfl) (by simp) fun i hi => ?_
        obtain rfl := List.mem_singleton.1 hi
        refine wpOp_run (v := .bool al) rfl rfl (by go_simp) ?_
        refine ⟨by kernel_rfl, ?_⟩
        go_wp2
        exact fin _ w2 rfl rfl rfl q1 q2 (q3 D (by omega))
      · refine wpOp_wp rfl rfl (hst _ _ _ _ _ _ rfl rfl rfl fun w2 q1 q2 q3 => ?_)
        have hcd2 := (World.cell?_of_block (a := ⟨w.heap.size + 1 + 1, 0, none⟩) (q3 (w.heap.size + 1 + 1) (by omega))).trans hcd
        refine wpAny_step (rs := [1]) (by kernel_rfl) (by simp) fun i hi => ?_
        obtain rfl := List.mem_singleton.1 hi
        refine wpOp_run (v := .bool al) rfl rfl (by go_simp) ?_
        refine wpAny_step (rs := [3]) (by kernel_rfl) (by simp) fun i hi => ?_
        obtain rfl := List.mem_singleton.1 hi
        refine wpOp_run (v := .bool al) rfl rfl (by go_simp) ?_
        refine ⟨by kernel_rfl, ?_⟩
        go_wp2
        exact fin _ w2 rfl rfl rfl q1 q2 (q3 D (by omega))
    · refine wpOp_run (v := .bool al) rfl rfl (by go_simp) ?_
      refine wpAny_step (rs := [0]) (by kernel_rfl) (by simp) fun i hi => ?_
      obtain rfl := List.mem_singleton.1 hi
      refine wpOp_run rfl rfl (exec_loadAv i1.drew _ _ rfl rfl _ 32 hrt32 Tryd.underlying28 rfl (by kernel_rfl)) ?_
      refine wpAny_step (rs := [2]) (by kernel_rfl) (by simp) fun i hi => ?_
      obtain rfl := List.mem_singleton.1 hi
      refine wpOp_wp rfl rfl (hst _ _ _ _ _ _ rfl rfl rfl fun w2 q1 q2 q3 => ?_)
      refine wpAny_step (rs := [3]) (by kernel_rfl) (by simp) fun i hi => ?_
      obtain rfl := List.mem_singleton.1 hi
      refine wpOp_run (v := .bool al) rfl rfl (by go_simp) ?_
      refine ⟨by kernel_rfl, ?_⟩
      go_wp2
      exact fin _ w2 rfl rfl rfl q1 q2 (q3 D (by omega))
theorem Root (l : List (List UInt8)) (h32 : All32 l) (A0 : Option Addr) (m c0 : Nat) (hm : l.length = m) (_ : m ≤ 100000) (w : World) (hr : Rd w A0 (hcl l)) (ht : Tabs w) :
    Calls Tryd.prog 27 #[.slice A0 m c0] w fun e w' => e = .returned (.tuple #[.agg (hcs (mRootOf (mLv l))), .bool (mAlike (mLv l))]) ∧ Below w.heap.size w w' :=
  RootAny l h32 A0 m c0 hm w hr ht
end Go.Proofs.YtdkknincamkhpaaDoor
