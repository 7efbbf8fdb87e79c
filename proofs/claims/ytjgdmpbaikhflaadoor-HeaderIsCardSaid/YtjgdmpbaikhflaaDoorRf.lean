/- florinref02: End. -/
import Derived.Test.YtjgdmpbaikhflaaDoorRe
import Derived.Test.YtjgdmpbaikhflaaDoorPr5
namespace Go.Proofs.YtjgdmpbaikhflaaDoor
open Go.RowKit
/-- a slice of bytes -/
def SlQ (bs : List UInt8) : VP := fun v w => ∃ A c, v = .slice A bs.length c ∧ Rd w A (bs.map bv)
theorem SlQ.mono {bs : List UInt8} {v : Value} {w w' : World} (h : Ext w w') : SlQ bs v w → SlQ bs v w' := by
  rintro ⟨A, c, rfl, hr⟩
  exact ⟨A, c, rfl, hr.below h⟩
theorem zeros_st : #[Value.int IntKind.u32 0, Value.int IntKind.u32 0, Value.int IntKind.u32 0, Value.int IntKind.u32 0, Value.int IntKind.u32 0, Value.int IntKind.u32 0, Value.int IntKind.u32 0, Value.int IntKind.u32 0, Value.slice none 0 0, Value.int IntKind.u64 0] = (stc (List.replicate 8 0) none 0 0 0).toArray := by
  rw [stc, List.map_replicate, wc, wn_zero]; rfl
def StQ (h : List W32) (N : Int) : VP := fun v _ => ∃ A c, v = .agg (stc h A 0 c N).toArray
/-- a new State -/
def NewS (b : Nat) : VP := fun v w => ∃ g, v = .pointer (some ⟨g, 0, none⟩) ∧ b ≤ g ∧ Av w g 101 (stc (List.replicate 8 0) none 0 0 0)
theorem NewS.mono {b : Nat} {v : Value} {w w' : World} (h : Ext w w') : NewS b v w → NewS b v w' := by
  rintro ⟨g, rfl, hb, ha⟩
  exact ⟨g, rfl, hb, ha.below h⟩
theorem exec_allocS {ρ : Operand → Value} {w : World} (o : Oper) (ho : o.op = .alloc 101) : (execOp ρ o).run Tryd.prog w = .ok (.value (.pointer (some ⟨w.heap.size, 0, none⟩))) (w.alloc (.cells (stc (List.replicate 8 0) none 0 0 0).toArray 101)) := by
  have hz := zeros_st
  unfold execOp
  simp only [ho]
  go_simp
theorem relRes_enter {P : Program} {R : World → World → Prop} {w : World} {ok : VP} {r : Result Next} (f : FuncId) (args : Array Value) (he : r = .ok (.enter f args) w) (h : Calls P f args w fun e w'' => ∃ v, e = .returned v ∧ R w w'' ∧ ok v w'') : relRes P R w ok r := by
  rw [he]
  exact h
/-- the first n bytes written -/
def ofl (h : List W32) : Nat → List UInt8
  | 0 => List.replicate 32 0
  | n + 1 => (ofl h n).set n (w8 (h.getD (n / 4) 0) (24 - 8 * (n % 4)))
theorem ofl_length (h : List W32) (n : Nat) : (ofl h n).length = 32 := by
  induction n with
  | zero => simp [ofl]
  | succ n ih => rw [ofl, List.length_set, ih]
theorem ofl_four (h : List W32) (k : Nat) : ofl h (4 * k) = ofill h k := by
  induction k with
  | zero => rfl
  | succ k ih =>
    rw [show 4 * (k + 1) = 4 * k + 3 + 1 by omega, ofl, ofl, ofl, ofl, ih, ofill]
    rw [show 4 * k / 4 = k by omega, show (4 * k + 1) / 4 = k by omega, show (4 * k + 2) / 4 = k by omega, show (4 * k + 3) / 4 = k by omega, show 4 * k % 4 = 0 by omega, show (4 * k + 1) % 4 = 1 by omega, show (4 * k + 2) % 4 = 2 by omega, show (4 * k + 3) % 4 = 3 by omega]
set_option maxRecDepth 10000 in
set_option maxHeartbeats 4000000 in
theorem EndR (h : List W32) (hh : h.length = 8) (rs : List UInt8) (A : Option Addr) (n c : Nat) (hn : rs.length = n) (hn6 : n < 64) (_ : n ≤ c) (N : Nat) (h1 : N < 18446744073709551616) (h64 : N % 64 = n)
    (w : World) (hq : Rd w A (rs.map bv)) :
    Calls Tryd.prog 67 #[.agg (stc h A n c N).toArray] w fun e w' =>
      e = .returned (.agg (hcs (outB (shFold ((n + (padZ N + 9)) / 64) h (rs ++ padOf N))))) ∧ Below w.heap.size w w' := by
  have hs := SaneR h hh A n c N (by omega) (by omega) (by omega) true (by simp; omega)
  have hpl : (padOf N).length = padZ N + 9 := pfill_length N 8
  have hpz : (n + (padZ N + 9)) % 64 = 0 ∧ 64 ≤ n + (padZ N + 9) := by rw [padZ]; split <;> omega
  obtain ⟨h', hh'⟩ : ∃ l, l = shFold ((n + (padZ N + 9)) / 64) h (rs ++ padOf N) := ⟨_, rfl⟩
  have hl' : h'.length = 8 := by rw [hh', shFold_length _ _ _ hh]
  rw [← hh']
  replace hh' := Lib.hid hh'
  replace hl' := Lib.hid hl'
  obtain ⟨ss, hss⟩ : ∃ ss : List Value, ss = stc h A n c N := ⟨_, rfl⟩
  have c9 : ss[9]? = some (.int .u64 (N : Int)) := by rw [hss, stc, List.getElem?_append_right (by simp [hh])]; simp [hh]
  rw [← hss] at hs ⊢
  have hsl : ss.length = 10 := by rw [hss]; simp [stc, hh]
  replace hss := Lib.hid hss
  replace hsl := Lib.hid hsl
  replace hh := Lib.hid hh
  replace hpl := Lib.hid hpl
  replace hn := Lib.hid hn
  replace h64 := Lib.hid h64
  replace c9 := Lib.hid c9
  obtain ⟨zs, hzs⟩ : ∃ zs : List UInt8, zs = List.replicate 32 0 := ⟨_, rfl⟩
  have hz := zeros_32
  rw [← hzs] at hz
  have hzl : (zs.map bv).length = 32 := by rw [hzs]; simp
  replace hzs := Lib.hid hzs
  replace hzl := Lib.hid hzl
  go_enter Tryd.func67, Tryd.ntmps67
  have hb0 : Below w.heap.size w ((w.alloc (.cells ss.toArray 101)).alloc (.cells (zs.map bv).toArray 24)) := ((Below.refl _ _).alloc (Nat.le_refl _) _).alloc (by simp) _
  have ha1 : Av ((w.alloc (.cells ss.toArray 101)).alloc (.cells (zs.map bv).toArray 24)) w.heap.size 101 ss := heap_alloc2_old _ _ _
  have ha2 : Av ((w.alloc (.cells ss.toArray 101)).alloc (.cells (zs.map bv).toArray 24)) (w.heap.size + 1) 24 (zs.map bv) := heap_alloc2_new _ _ _
  go_wp2_with (refine wpList_loadAv ha1 rfl _ _ rfl rfl _ 10 hsl.out Tryd.underlying101 rfl (by kernel_rfl) ?_)
  generalize (w.alloc (.cells ss.toArray 101)).alloc (.cells (zs.map bv).toArray 24) = w0 at *
  refine (hs w0).mono ?_
  rintro e w1 ⟨rfl, b1⟩
  replace ha1 := ha1.below b1
  replace ha2 := ha2.below b1
  replace b1 := hb0.trans (b1.mono hb0.size)
  clear hb0 hs
  go_wp2_with fail
  have HP := Lib.hid (PadR N h1)
  have hdr : (rs ++ padOf N).drop (64 * ((n + (padZ N + 9)) / 64)) = [] := List.drop_of_length_le (by rw [List.length_append, hn.out, hpl.out]; omega)
  obtain ⟨N2, hN2⟩ : ∃ x, x = IntKind.u64.wrap ((N : Int) + IntKind.u64.wrap ((padZ N + 9 : Nat) : Int)) := ⟨_, rfl⟩
  have HW : ∀ (w' : World) (B : Option Addr) (cB : Nat), Below w.heap.size w w' → Rd w' B ((padOf N).map bv) → Calls Tryd.prog 68 #[.agg ss.toArray, .slice B (padOf N).length cB] w' fun e w'' => ∃ v, e = .returned v ∧ Ext w' w'' ∧ StQ h' N2 v w'' := by
    intro w' B cB hB hrb
    have HW := WriteR h hh.out rs A n c hn.out hn6 N (by omega) (by omega) (by have := h64.out; omega) (padOf N) B (padZ N + 9) cB hpl.out (by have := hpz; rw [padZ]; split <;> omega) w' (hq.below hB) hrb
    rw [hpz.1, ← hss.out, hdr, ← hh'.out, ← hN2] at HW
    rw [hpl.out]
    exact HW.mono fun e w'' ⟨A3, c3, he, _, _, hb⟩ => ⟨_, he, hb, A3, c3, rfl⟩
  replace HW := Lib.hid HW
  have hwa := ha2.lt
  refine wp_region_relT 6 [(3, SlQ (padOf N)), (4, StQ h' N2), (5, NewS (w.heap.size + 2))] Ext (by kernel_rfl) (by kernel_rfl) (by kernel_rfl) (by kernel_rfl) (by kernel_rfl) Ext.refl Ext.trans (by intro p hp v w w' hR; simp only [List.mem_cons, List.not_mem_nil, or_false] at hp; rcases hp with rfl | rfl | rfl; exact SlQ.mono hR; exact id; exact NewS.mono hR) ?_
  refine relPure Ext.refl rfl rfl rfl rfl (c := .agg ss.toArray) (fun w hw => exec_loadAv (ha1.below hw.drew) _ _ rfl rfl _ 10 hsl.out Tryd.underlying101 rfl (by kernel_rfl)) (by simp only [List.set_cons_succ, List.set_cons_zero]; rfl) ?_
  refine relPure Ext.refl rfl rfl rfl rfl (fun w _ => by go_simp; first | done | rfl) (by simp only [List.set_cons_succ, List.set_cons_zero]; rfl) ?_
  refine relPure Ext.refl rfl rfl rfl rfl (c := .int .u64 (N : Int)) (fun w hw => by have := (ha1.below hw.drew).cell 9 _ c9.out; go_simp; first | done | rfl) (by simp only [List.set_cons_succ, List.set_cons_zero]; rfl) ?_
  refine relCall _ rfl rfl rfl 76 #[.int .u64 (N : Int)] (fun w => by go_simp) (fun w hw => (HP.out w).mono ?_) ?_
  · rintro e w' ⟨v, rfl, hown, hb⟩
    obtain ⟨A', c', rfl, _, _⟩ := hown.form
    exact ⟨_, rfl, hb, _, _, rfl, hown.rd⟩
  refine relWord _ rfl (fun w2 hw => fill_take rfl rfl fun v hv => fill_skip rfl (fill_skip rfl (fill_end (relOp_yes rfl ?_)))) ?_
  · obtain ⟨B, cB, rfl, hrb⟩ := hv
    simp only [List.set_cons_succ, List.set_cons_zero]
    exact relRes_enter 68 #[.agg ss.toArray, .slice B (padOf N).length cB] (by go_simp) (HW.out w2 B cB (b1.trans (hw.drew.mono b1.size)) hrb)
  refine relWord _ rfl (fun w2 hw => fill_none rfl (relOp_yes rfl ?_)) ?_
  · rw [exec_allocS _ rfl]
    exact ⟨(Below.refl _ _).alloc (Nat.le_refl _) _, w2.heap.size, rfl, by have := hw.drew.size; omega, heap_alloc_new _ _⟩
  refine relEnd fun w2 hw2 => fill_take rfl rfl fun v hv => fill_take rfl rfl fun v4 hv4 => fill_take rfl rfl fun v5 hv5 => fill_end ?_
  simp only [List.set_cons_succ, List.set_cons_zero]
  obtain ⟨B, cB, rfl, hrb⟩ := hv
  obtain ⟨A3, c3, rfl⟩ := hv4
  obtain ⟨g3, rfl, hg3, ha3⟩ := hv5
  replace hw2 := hw2.drew
  replace ha1 := ha1.below hw2
  replace ha2 := ha2.below hw2
  have b2 := b1.trans (hw2.mono b1.size)
  clear b1 hw2 hrb HP HW hpz hh' hN2 hdr hwa
  simp only [List.drop_succ_cons, List.drop_zero]
  have hg3' : w.heap.size ≤ g3 := by omega
  have hztl : (stc (List.replicate 8 0) none 0 0 0).length = 10 := by simp [stc]
  go_wp2_with (refine wpList_storeAv b2 ha3 hg3' rfl _ _ _ rfl rfl (stc h' A3 0 c3 N2) rfl 10 (by simp [stc, hl'.out]) (by kernel_rfl) (by rw [List.size_toArray]; exact hztl) (by simp [stc, Value.oneCell']) ?_
               intro w4 a4 b4 k4 z4
               replace z4 := Lib.hid z4
               replace ha2 := ha2.same (k4 _ (by omega)))
  have z5 : w.heap.size + 1 < g3 := by omega
  have hb4g : w.heap.size ≤ g3 := by omega
  have a5 : Av (w4.alloc (.cells (zs.map bv).toArray 24)) w4.heap.size 24 ((ofl h' 0).map bv) := by
    have := heap_alloc_new w4 (.cells (zs.map bv).toArray 24)
    rw [hzs.out] at this ⊢
    exact this
  have a4' := a4.alloc (.cells (zs.map bv).toArray 24)
  have z6 : g3 < w4.heap.size := a4.lt
  have b5 := b4.alloc b4.size (.cells (zs.map bv).toArray 24)
  have a6 := ha2.alloc (.cells (zs.map bv).toArray 24)
  clear k4 ha2 a4 ha1
  obtain ⟨st, hst⟩ : ∃ st, st = stc h' A3 0 c3 N2 := ⟨_, rfl⟩
  rw [← hst] at a4'
  have hcw : ∀ k, k < 8 → st[k]? = some (wc (h'.getD k 0)) := fun k hk => by
    rw [hst, stc, List.getElem?_append_left (by simp [hl'.out, hk])]; simp [List.getElem?_eq_getElem (show k < h'.length by rw [hl'.out]; exact hk)]
  replace hst := Lib.hid hst
  replace hcw := Lib.hid hcw
  go_loopw [5, 6] (fun i _ wr => ∃ k : Nat, k ≤ 8 ∧ i = .int .i64 k ∧ Below w.heap.size w wr ∧ Av wr w4.heap.size 24 ((ofl h' (4 * k)).map bv) ∧ Av wr g3 101 st ∧ Av wr (w.heap.size + 1) 24 (zs.map bv)) (fun i _ _ => 8 - (intOf i).toNat)
  case atStart => exact ⟨0, by omega, rfl, b5, a5, a4', a6⟩
  case round =>
    clear a5 a6 b5 a4' b4
    obtain ⟨k, hk, rfl, hb, ha, has, hr0⟩ := hrel
    by_cases hk8 : k < 8
    · have hk1 : (k : Int) < 8 := by omega
      have hk0 : 0 ≤ (k : Int) := by omega
      have hcx := hcw.out k hk8
      generalize hgx : h'.getD k 0 = x at hcx
      replace hgx := Lib.hid hgx
      have e24 : wn x / 16777216 % 256 = ((w8 x 24).toNat : Int) := by rw [show (16777216 : Int) = 2 ^ 24 by decide]; exact w8_eq x 24
      have e16 : wn x / 65536 % 256 = ((w8 x 16).toNat : Int) := by rw [show (65536 : Int) = 2 ^ 16 by decide]; exact w8_eq x 16
      have e8 : wn x / 256 % 256 = ((w8 x 8).toNat : Int) := by rw [show (256 : Int) = 2 ^ 8 by decide]; exact w8_eq x 8
      have e0 : wn x % 256 = ((w8 x 0).toNat : Int) := by have := w8_eq x 0; simpa using this
      go_wp2
      go_loopw [6] (fun i wr => ∃ j : Nat, j ≤ 4 ∧ i = .int .i64 j ∧ Below w.heap.size w wr ∧ Av wr w4.heap.size 24 ((ofl h' (4 * k + j)).map bv) ∧ Av wr g3 101 st ∧ Av wr (w.heap.size + 1) 24 (zs.map bv)) (fun i _ => 4 - (intOf i).toNat)
      case atStart => exact ⟨0, by omega, rfl, hb, ha, has, hr0⟩
      case round =>
        clear hb ha has hr0
        obtain ⟨j, hj, rfl, hb, ha, has, hr0⟩ := hrel
        have hcs := has.cell k _ hcx
        rcases (show j = 0 ∨ j = 1 ∨ j = 2 ∨ j = 3 ∨ j = 4 by omega) with rfl | rfl | rfl | rfl | rfl
        · have hp0 : 0 ≤ 4 * (k : Int) := by omega
          have hq0 : 4 * (k : Int) < 32 := by omega
          have hfz0 : wr.frozen? ⟨w4.heap.size, 4 * k, none⟩ = false := frozen_of_row _ _ _ _ _ ha
          have hcl0 := ha.get (4 * k) (by simp [ofl_length]; omega)
          go_wp2
          replace hb := hb.setCell (p := ⟨w4.heap.size, 4 * k, none⟩) (by simp only; omega) (bv (w8 x 24))
          replace ha := ha.set (4 * k) (bv (w8 x 24))
          rw [← List.map_set] at ha
          replace hr0 := hr0.other ⟨w4.heap.size, 4 * k, none⟩ (bv (w8 x 24)) (by simp only; omega)
          replace has := has.other ⟨w4.heap.size, 4 * k, none⟩ (bv (w8 x 24)) (by simp only; omega)
          refine ⟨⟨0 + 1, by omega, rfl, hb, ?_, has, hr0⟩, ?_⟩
          · rw [show 4 * k + (0 + 1) = 4 * k + 1 by omega, ofl, show (4 * k) / 4 = k by omega, show (4 * k) % 4 = 0 by omega, hgx.out]; exact ha
          · simp [intOf]
        · have hp0 : 0 ≤ 4 * (k : Int) + 1 := by omega
          have hq0 : 4 * (k : Int) + 1 < 32 := by omega
          have hfz0 : wr.frozen? ⟨w4.heap.size, 4 * k + 1, none⟩ = false := frozen_of_row _ _ _ _ _ ha
          have hcl0 := ha.get (4 * k + 1) (by simp [ofl_length]; omega)
          go_wp2
          replace hb := hb.setCell (p := ⟨w4.heap.size, 4 * k + 1, none⟩) (by simp only; omega) (bv (w8 x 16))
          replace ha := ha.set (4 * k + 1) (bv (w8 x 16))
          rw [← List.map_set] at ha
          replace hr0 := hr0.other ⟨w4.heap.size, 4 * k + 1, none⟩ (bv (w8 x 16)) (by simp only; omega)
          replace has := has.other ⟨w4.heap.size, 4 * k + 1, none⟩ (bv (w8 x 16)) (by simp only; omega)
          refine ⟨⟨1 + 1, by omega, rfl, hb, ?_, has, hr0⟩, ?_⟩
          · rw [show 4 * k + (1 + 1) = 4 * k + 1 + 1 by omega, ofl, show (4 * k + 1) / 4 = k by omega, show (4 * k + 1) % 4 = 1 by omega, hgx.out]; exact ha
          · simp [intOf]
        · have hp0 : 0 ≤ 4 * (k : Int) + 2 := by omega
          have hq0 : 4 * (k : Int) + 2 < 32 := by omega
          have hfz0 : wr.frozen? ⟨w4.heap.size, 4 * k + 2, none⟩ = false := frozen_of_row _ _ _ _ _ ha
          have hcl0 := ha.get (4 * k + 2) (by simp [ofl_length]; omega)
          go_wp2
          replace hb := hb.setCell (p := ⟨w4.heap.size, 4 * k + 2, none⟩) (by simp only; omega) (bv (w8 x 8))
          replace ha := ha.set (4 * k + 2) (bv (w8 x 8))
          rw [← List.map_set] at ha
          replace hr0 := hr0.other ⟨w4.heap.size, 4 * k + 2, none⟩ (bv (w8 x 8)) (by simp only; omega)
          replace has := has.other ⟨w4.heap.size, 4 * k + 2, none⟩ (bv (w8 x 8)) (by simp only; omega)
          refine ⟨⟨2 + 1, by omega, rfl, hb, ?_, has, hr0⟩, ?_⟩
          · rw [show 4 * k + (2 + 1) = 4 * k + 2 + 1 by omega, ofl, show (4 * k + 2) / 4 = k by omega, show (4 * k + 2) % 4 = 2 by omega, hgx.out]; exact ha
          · simp [intOf]
        · have hp0 : 0 ≤ 4 * (k : Int) + 3 := by omega
          have hq0 : 4 * (k : Int) + 3 < 32 := by omega
          have hfz0 : wr.frozen? ⟨w4.heap.size, 4 * k + 3, none⟩ = false := frozen_of_row _ _ _ _ _ ha
          have hcl0 := ha.get (4 * k + 3) (by simp [ofl_length]; omega)
          go_wp2
          replace hb := hb.setCell (p := ⟨w4.heap.size, 4 * k + 3, none⟩) (by simp only; omega) (bv (w8 x 0))
          replace ha := ha.set (4 * k + 3) (bv (w8 x 0))
          rw [← List.map_set] at ha
          replace hr0 := hr0.other ⟨w4.heap.size, 4 * k + 3, none⟩ (bv (w8 x 0)) (by simp only; omega)
          replace has := has.other ⟨w4.heap.size, 4 * k + 3, none⟩ (bv (w8 x 0)) (by simp only; omega)
          refine ⟨⟨3 + 1, by omega, rfl, hb, ?_, has, hr0⟩, ?_⟩
          · rw [show 4 * k + (3 + 1) = 4 * k + 3 + 1 by omega, ofl, show (4 * k + 3) / 4 = k by omega, show (4 * k + 3) % 4 = 3 by omega, hgx.out]; exact ha
          · simp [intOf]
        · go_wp2
          refine ⟨⟨k + 1, by omega, by go_num, hb, ha, has, hr0⟩, ?_⟩
          simp [intOf]; omega
    · obtain rfl : k = 8 := by omega
      rw [ofl_four] at ha
      have hw1 : w.heap.size ≤ w.heap.size + 1 := by omega
      go_wp2_with (first
        | refine wpList_loadAv ha rfl _ _ rfl rfl _ 32 (by rw [List.length_map, ofill_length]) Tryd.underlying24 rfl (by kernel_rfl) ?_
        | (refine wpList_storeAv hb hr0 hw1 rfl _ _ _ rfl rfl ((ofill h' 8).map bv) rfl 32 (by rw [List.length_map, ofill_length]) (by kernel_rfl) (by rw [List.size_toArray]; exact hzl.out) (by simp [Value.oneCell']) ?_
           intro w6 a6 b6 k6 z6))
      refine bodyPost_ret (results_cell_row rfl _ _ (w.heap.size + 1) _ _ (0, 0) _ rfl a6 Tryd.underlying24 rfl (by rw [List.size_toArray, List.length_map, ofill_length]; kernel_rfl)) rfl ⟨rfl, b6⟩
end Go.Proofs.YtjgdmpbaikhflaaDoor
