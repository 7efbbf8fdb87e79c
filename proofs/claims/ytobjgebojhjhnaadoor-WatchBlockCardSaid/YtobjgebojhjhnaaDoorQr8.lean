import Derived.Test.YtobjgebojhjhnaaDoorQr7
import Derived.Test.YtobjgebojhjhnaaDoorQr1
import Derived.Test.YtobjgebojhjhnaaDoorQr2
import Derived.Deep.Cut
import Derived.Test.YtobjgebojhjhnaaDoorQr3
import Derived.Test.YtobjgebojhjhnaaDoorCMath
import Derived.Test.YtobjgebojhjhnaaDoorBits
namespace Go.Proofs.YtobjgebojhjhnaaDoor
open Go.RowKit
theorem Write (h : List W32) (hh : h.length = 8) (rs : List UInt8) (A : Option Addr) (n c : Nat) (hn : rs.length = n) (hn6 : n < 64) (hnc : n ≤ c) (N : Int) (h0 : 0 ≤ N) (h1 : N < 18446744073709551616) (h64 : N % 64 = n)
  (bs : List UInt8) (B : Option Addr) (m cb : Nat) (hm : bs.length = m) (hc : m ≤ cb) (hnm : n = 0 ∨ 64 ≤ n + m) (w : World) (hq : Rd w A (rs.map bv)) (hr : Rd w B (bs.map bv)) (ht : Tabs w) :
  Calls Tryd.prog 88 #[.agg (stc h A n c N).toArray, .slice B m cb] w fun e w' =>
   ∃ A' c', e = .returned (.agg (stc (shFold ((n + m) / 64) h (rs ++ bs)) A' ((n + m) % 64) c' (IntKind.u64.wrap (N + IntKind.u64.wrap (m : Int)))).toArray) ∧ (n + m) % 64 ≤ c' ∧ Rd w' A' (((rs ++ bs).drop (64 * ((n + m) / 64))).map bv) ∧ Below w.heap.size w w' := by
 by_cases hz : n = 0
 ·subst hz
  have : rs = [] := List.length_eq_zero_iff.1 hn
  subst this
  simp only [Nat.zero_add, List.nil_append]
  exact Write0 h hh A c N h0 h1 (by simpa using h64) bs B m cb hm hc w hr ht
 ·exact Write1 h hh rs A n c hn (by omega) hn6 hnc N h0 h1 h64 bs B m cb hm hc (by omega) w hq hr ht
def w8 (x : W32) (s : Nat) : UInt8 := UInt8.ofNat (x.toNat / 2 ^ s)
theorem w8_eq (x : W32) (s : Nat) : wn x / 2 ^ s % 256 = ((w8 x s).toNat : Int) := by
 have e : (w8 x s).toNat = x.toNat / 2 ^ s % 256 := UInt8.toNat_ofNat'
 rw [e, wn_def]
 simp
def ofill (h : List W32) : Nat → List UInt8
 | 0 => List.replicate 32 0
 | k + 1 => ((((ofill h k).set (4 * k) (w8 (h.getD k 0) 24)).set (4 * k + 1) (w8 (h.getD k 0) 16)).set (4 * k + 2) (w8 (h.getD k 0) 8)).set (4 * k + 3) (w8 (h.getD k 0) 0)
theorem ofill_length (h : List W32) (k : Nat) : (ofill h k).length = 32 := by
 induction k with
 | zero => simp [ofill]
 | succ k ih => simp [ofill, ih]
def outB (h : List W32) : List UInt8 := ofill h 8
theorem outB_length (h : List W32) : (outB h).length = 32 := ofill_length h 8
theorem index_word (l : List W32) (hl : l.length = 8) (k : Nat) (hk : k < 8) (w : World) :
  (Instr.index 192 (.agg (l.map wc).toArray) (.int .i64 (k : Int))).run Tryd.prog w = .ok (wc (l.getD k 0)) w := by
 obtain ⟨v0, v1, v2, v3, v4, v5, v6, v7, rfl⟩ := len8 hl
 rcases (show k = 0 ∨ k = 1 ∨ k = 2 ∨ k = 3 ∨ k = 4 ∨ k = 5 ∨ k = 6 ∨ k = 7 by omega) with rfl | rfl | rfl | rfl | rfl | rfl | rfl | rfl <;> kernel_rfl
theorem Av.get {w : World} {g : Nat} {t : TypeId} {l : List UInt8} (h : Av w g t (l.map bv)) (i : Nat) (hi : i < l.length) : w.cell? ⟨g, i, none⟩ = some (bv (l.getD i 0)) :=
 h.cell i _ (by rw [List.getElem?_map, List.getElem?_eq_getElem hi, List.getD_eq_getElem?_getD, List.getElem?_eq_getElem hi]; rfl)
abbrev hcs (b : List UInt8) : Array Value := (b.map bv).toArray
theorem zeros_32 : #[Value.int IntKind.u8 0, Value.int IntKind.u8 0, Value.int IntKind.u8 0, Value.int IntKind.u8 0, Value.int IntKind.u8 0, Value.int IntKind.u8 0, Value.int IntKind.u8 0, Value.int IntKind.u8 0, Value.int IntKind.u8 0, Value.int IntKind.u8 0, Value.int IntKind.u8 0, Value.int IntKind.u8 0, Value.int IntKind.u8 0, Value.int IntKind.u8 0, Value.int IntKind.u8 0, Value.int IntKind.u8 0, Value.int IntKind.u8 0, Value.int IntKind.u8 0, Value.int IntKind.u8 0, Value.int IntKind.u8 0, Value.int IntKind.u8 0, Value.int IntKind.u8 0, Value.int IntKind.u8 0, Value.int IntKind.u8 0, Value.int IntKind.u8 0, Value.int IntKind.u8 0, Value.int IntKind.u8 0, Value.int IntKind.u8 0, Value.int IntKind.u8 0, Value.int IntKind.u8 0, Value.int IntKind.u8 0, Value.int IntKind.u8 0] = ((List.replicate 32 (0 : UInt8)).map bv).toArray := rfl
def FullW (bs : List UInt8) : VP := fun v w => ∃ A, v = .slice A bs.length bs.length ∧ Rd w A (bs.map bv)
theorem FullW.mono {bs : List UInt8} {v : Value} {w w' : World} (h : Ext w w') : FullW bs v w → FullW bs v w' := by
 rintro ⟨A, rfl, hr⟩
 exact ⟨A, rfl, hr.below h⟩
set_option maxRecDepth 10000 in
set_option maxHeartbeats 4000000 in
theorem End (h : List W32) (hh : h.length = 8) (rs : List UInt8) (A : Option Addr) (n c : Nat) (hn : rs.length = n) (hn6 : n < 64) (hnc : n ≤ c) (N : Nat) (h1 : N < 18446744073709551616) (h64 : N % 64 = n)
    (w : World) (hq : Rd w A (rs.map bv)) (ht : Tabs w) :
    Calls Tryd.prog 87 #[.agg (stc h A n c N).toArray] w fun e w' =>
      e = .returned (.agg (hcs (outB (shFold ((n + (padZ N + 9)) / 64) h (rs ++ padOf N))))) ∧ Below w.heap.size w w' := by
  have hs := Sane h hh A n c N (by omega) (by omega) (by omega) true (by simp; omega)
  have hpl : (padOf N).length = padZ N + 9 := pfill_length N 8
  have hpz : (n + (padZ N + 9)) % 64 = 0 ∧ 64 ≤ n + (padZ N + 9) := by rw [padZ]; split <;> omega
  obtain ⟨h', hh'⟩ : ∃ l, l = shFold ((n + (padZ N + 9)) / 64) h (rs ++ padOf N) := ⟨_, rfl⟩
  have hl' : h'.length = 8 := by rw [hh', shFold_length _ _ _ hh]
  rw [← hh']
  replace hh' := Lib.hid hh'
  replace hl' := Lib.hid hl'
  obtain ⟨ss, hss⟩ : ∃ ss : List Value, ss = stc h A n c N := ⟨_, rfl⟩
  have c9 : ss[9]? = some (.int .u64 (N : Int)) := by rw [hss, stc, List.getElem?_append_right (by simp [hh])]; simp [hh]
  rw [← hss] at hs ⊢
  have hsl : ss.length = 10 := by rw [hss]; simp [stc, hh]
  replace hss := Lib.hid hss
  replace hsl := Lib.hid hsl
  replace hh := Lib.hid hh
  replace hpl := Lib.hid hpl
  replace hn := Lib.hid hn
  replace h64 := Lib.hid h64
  replace c9 := Lib.hid c9
  obtain ⟨zs, hzs⟩ : ∃ zs : List UInt8, zs = List.replicate 32 0 := ⟨_, rfl⟩
  have hz := zeros_32
  rw [← hzs] at hz
  have hzl : (zs.map bv).length = 32 := by rw [hzs]; simp
  replace hzs := Lib.hid hzs
  replace hzl := Lib.hid hzl
  go_enter Tryd.func87, Tryd.ntmps87
  have hb0 : Below w.heap.size w ((w.alloc (.cells ss.toArray 194)).alloc (.cells (zs.map bv).toArray 30)) := ((Below.refl _ _).alloc (Nat.le_refl _) _).alloc (by simp) _
  have ha1 : Av ((w.alloc (.cells ss.toArray 194)).alloc (.cells (zs.map bv).toArray 30)) w.heap.size 194 ss := heap_alloc2_old _ _ _
  have ha2 : Av ((w.alloc (.cells ss.toArray 194)).alloc (.cells (zs.map bv).toArray 30)) (w.heap.size + 1) 30 (zs.map bv) := heap_alloc2_new _ _ _
  go_wp2_with (refine wpList_loadAv ha1 rfl _ _ rfl rfl _ 10 hsl.out Tryd.underlying194 rfl (by kernel_rfl) ?_)
  generalize (w.alloc (.cells ss.toArray 194)).alloc (.cells (zs.map bv).toArray 30) = w0 at *
  refine (hs w0).mono ?_
  rintro e w1 ⟨rfl, b1⟩
  replace ha1 := ha1.below b1
  replace ha2 := ha2.below b1
  replace b1 := hb0.trans (b1.mono hb0.size)
  clear hb0 hs
  go_wp2_with fail
  have HP := Lib.hid (Pad N h1)
  refine wp_region_relT 4 [(3, FullW (padOf N))] Ext (by kernel_rfl) (by kernel_rfl) (by kernel_rfl) (by kernel_rfl) (by kernel_rfl) Ext.refl Ext.trans (by intro p hp v w w' hR; simp only [List.mem_singleton] at hp; subst hp; exact FullW.mono hR) ?_
  refine ZP (c := .agg ss.toArray) (fun w hw => exec_loadAv (ha1.below hw.drew) _ _ rfl rfl _ 10 hsl.out Tryd.underlying194 rfl (by kernel_rfl)) ?_
  refine ZP (fun w _ => by go_simp; first | done | rfl) ?_
  refine ZP (c := .int .u64 (N : Int)) (fun w hw => by have := (ha1.below hw.drew).cell 9 _ c9.out; go_simp; first | done | rfl) ?_
  refine relCall _ rfl rfl rfl 99 #[.int .u64 (N : Int)] (fun w => by go_simp) (fun w hw => (HP.out w).mono ?_) ?_
  · rintro e w' ⟨rfl, hr, hb⟩
    exact ⟨_, rfl, hb, _, by rw [hpl.out], hr⟩
  refine relEnd fun w2 hw2 => fill_take rfl rfl fun v hv => fill_end ?_
  simp only [List.set_cons_succ, List.set_cons_zero]
  obtain ⟨B, rfl, hrb⟩ := hv
  replace hw2 := hw2.drew
  replace ha1 := ha1.below hw2
  replace ha2 := ha2.below hw2
  have b2 := b1.trans (hw2.mono b1.size)
  have HW := Write h hh.out rs A n c hn.out hn6 hnc N (by omega) (by omega) (by have := h64.out; omega) (padOf N) B (padZ N + 9) (padZ N + 9) hpl.out (Nat.le_refl _) (.inr hpz.2) w2 (hq.below b2) hrb (ht.below b2)
  rw [hpz.1, ← hss.out] at HW
  have hdr : (rs ++ padOf N).drop (64 * ((n + (padZ N + 9)) / 64)) = [] := List.drop_of_length_le (by rw [List.length_append, hn.out, hpl.out]; omega)
  rw [hdr] at HW
  rw [← hh'.out] at HW
  obtain ⟨N2, hN2⟩ : ∃ x, x = IntKind.u64.wrap ((N : Int) + IntKind.u64.wrap ((padZ N + 9 : Nat) : Int)) := ⟨_, rfl⟩
  rw [← hN2] at HW
  rw [hpl.out]
  replace HW := Lib.hid HW
  clear hh' hN2 hdr
  simp only [List.drop_succ_cons, List.drop_zero]
  go_wp2_with fail
  refine HW.out.mono ?_
  rintro e w3 ⟨A3, c3, rfl, -, -, b3⟩
  clear HW
  replace ha1 := ha1.below b3
  replace ha2 := ha2.below b3
  replace b3 := b2.trans (b3.mono b2.size)
  clear b1 b2 hw2 hrb HP hpz
  go_wp2_with (first
    | refine wpList_load_mid rfl _ _ rfl _ _ rfl _ _ r4 Tryd.underlying192 rfl (by rw [List.length_map, hl'.out]; kernel_rfl) ?_
    | (refine wpList_storeAv b3 ha1 (Nat.le_refl _) rfl _ _ _ rfl rfl (stc h' A3 0 c3 N2) rfl 10 (by simp [stc, hl'.out]) (by kernel_rfl) (by rw [List.size_toArray]; exact hsl.out) (by simp [stc, Value.oneCell']) ?_
       intro w4 a4 b4 k4 z4
       replace z4 := Lib.hid z4
       have r4 : (w4.alloc (.cells (zs.map bv).toArray 30)).rangeAt w.heap.size 0 (h'.map wc) := Av.rangeAt (pre := []) (rest := [.slice A3 0 c3, .int .u64 N2]) (a4.alloc _) 0 rfl))
  have z5 : w.heap.size + 1 < w4.heap.size := by rw [z4.out]; exact ha2.lt
  replace ha2 := ha2.same (k4 (w.heap.size + 1) (by omega))
  have a5 : Av (w4.alloc (.cells (zs.map bv).toArray 30)) w4.heap.size 30 ((ofill h' 0).map bv) := by
    have := heap_alloc_new w4 (.cells (zs.map bv).toArray 30)
    rw [hzs.out] at this ⊢
    exact this
  have b5 := b4.alloc b4.size (.cells (zs.map bv).toArray 30)
  have a6 := ha2.alloc (.cells (zs.map bv).toArray 30)
  clear r4 k4 ha2 a4 ha1
  replace z5 := Lib.hid z5
  go_loopw [17] (fun i wr => ∃ k : Nat, k ≤ 8 ∧ i = .int .i64 k ∧ Below w.heap.size w wr ∧ Av wr w4.heap.size 30 ((ofill h' k).map bv) ∧ Av wr (w.heap.size + 1) 30 (zs.map bv)) (fun i _ => 8 - (intOf i).toNat)
  case atStart => exact ⟨0, by omega, rfl, b5, a5, a6⟩
  case round =>
    clear a5 a6 b5 b3
    obtain ⟨k, hk, rfl, hb, ha, hr0⟩ := hrel
    by_cases hk8 : k < 8
    · have hk1 : (k : Int) < 8 := by omega
      have hk0 : 0 ≤ (k : Int) := by omega
      have hx := index_word h' hl'.out k hk8
      generalize hgx : h'.getD k 0 = x at hx
      replace hgx := Lib.hid hgx
      have e24 : wn x / 16777216 % 256 = ((w8 x 24).toNat : Int) := by rw [show (16777216 : Int) = 2 ^ 24 by decide]; exact w8_eq x 24
      have e16 : wn x / 65536 % 256 = ((w8 x 16).toNat : Int) := by rw [show (65536 : Int) = 2 ^ 16 by decide]; exact w8_eq x 16
      have e8 : wn x / 256 % 256 = ((w8 x 8).toNat : Int) := by rw [show (256 : Int) = 2 ^ 8 by decide]; exact w8_eq x 8
      have e0 : wn x % 256 = ((w8 x 0).toNat : Int) := by have := w8_eq x 0; simpa using this
      have hp0 : 0 ≤ 4 * (k : Int) := by omega
      have hq0 : 4 * (k : Int) < 32 := by omega
      have hfz0 : wr.frozen? ⟨w4.heap.size, 4 * k, none⟩ = false := frozen_of_row _ _ _ _ _ ha
      have hcl0 := ha.get (4 * k) (by simp [ofill_length]; omega)
      go_upto_region 9 with fail
      replace hb := hb.setCell (p := ⟨w4.heap.size, 4 * k, none⟩) b4.size (bv (w8 x 24))
      replace ha := ha.set (4 * k) (bv (w8 x 24))
      rw [← List.map_set] at ha
      replace hr0 := hr0.other ⟨w4.heap.size, 4 * k, none⟩ (bv (w8 x 24)) (Nat.ne_of_lt z5.out)
      clear hp0 hq0 hfz0 hcl0
      generalize wr.setCell ⟨w4.heap.size, 4 * k, none⟩ (bv (w8 x 24)) = wr1 at *
      have hp1 : 0 ≤ 4 * (k : Int) + 1 := by omega
      have hq1 : 4 * (k : Int) + 1 < 32 := by omega
      have hfz1 : wr1.frozen? ⟨w4.heap.size, 4 * k + 1, none⟩ = false := frozen_of_row _ _ _ _ _ ha
      have hcl1 := ha.get (4 * k + 1) (by simp [ofill_length]; omega)
      go_upto_region 10 with fail
      replace hb := hb.setCell (p := ⟨w4.heap.size, 4 * k + 1, none⟩) b4.size (bv (w8 x 16))
      replace ha := ha.set (4 * k + 1) (bv (w8 x 16))
      rw [← List.map_set] at ha
      replace hr0 := hr0.other ⟨w4.heap.size, 4 * k + 1, none⟩ (bv (w8 x 16)) (Nat.ne_of_lt z5.out)
      clear hp1 hq1 hfz1 hcl1
      generalize wr1.setCell ⟨w4.heap.size, 4 * k + 1, none⟩ (bv (w8 x 16)) = wr2 at *
      have hp2 : 0 ≤ 4 * (k : Int) + 2 := by omega
      have hq2 : 4 * (k : Int) + 2 < 32 := by omega
      have hfz2 : wr2.frozen? ⟨w4.heap.size, 4 * k + 2, none⟩ = false := frozen_of_row _ _ _ _ _ ha
      have hcl2 := ha.get (4 * k + 2) (by simp [ofill_length]; omega)
      go_upto_region 11 with fail
      replace hb := hb.setCell (p := ⟨w4.heap.size, 4 * k + 2, none⟩) b4.size (bv (w8 x 8))
      replace ha := ha.set (4 * k + 2) (bv (w8 x 8))
      rw [← List.map_set] at ha
      replace hr0 := hr0.other ⟨w4.heap.size, 4 * k + 2, none⟩ (bv (w8 x 8)) (Nat.ne_of_lt z5.out)
      clear hp2 hq2 hfz2 hcl2
      generalize wr2.setCell ⟨w4.heap.size, 4 * k + 2, none⟩ (bv (w8 x 8)) = wr3 at *
      have hp3 : 0 ≤ 4 * (k : Int) + 3 := by omega
      have hq3 : 4 * (k : Int) + 3 < 32 := by omega
      have hfz3 : wr3.frozen? ⟨w4.heap.size, 4 * k + 3, none⟩ = false := frozen_of_row _ _ _ _ _ ha
      have hcl3 := ha.get (4 * k + 3) (by simp [ofill_length]; omega)
      go_wp2
      replace hb := hb.setCell (p := ⟨w4.heap.size, 4 * k + 3, none⟩) b4.size (bv (w8 x 0))
      replace ha := ha.set (4 * k + 3) (bv (w8 x 0))
      rw [← List.map_set] at ha
      replace hr0 := hr0.other ⟨w4.heap.size, 4 * k + 3, none⟩ (bv (w8 x 0)) (Nat.ne_of_lt z5.out)
      clear hp3 hq3 hfz3 hcl3
      refine ⟨⟨k + 1, by omega, rfl, hb, ?_, hr0⟩, ?_⟩
      · rw [ofill, hgx.out]; exact ha
      · simp [intOf]; omega
    · obtain rfl : k = 8 := by omega
      go_wp2_with (first
        | refine wpList_loadAv ha rfl _ _ rfl rfl _ 32 (by rw [List.length_map, ofill_length]) Tryd.underlying30 rfl (by kernel_rfl) ?_
        | (refine wpList_storeAv hb hr0 (by omega) rfl _ _ _ rfl rfl ((ofill h' 8).map bv) rfl 32 (by rw [List.length_map, ofill_length]) (by kernel_rfl) (by rw [List.size_toArray]; exact hzl.out) (by simp [Value.oneCell']) ?_
           intro w6 a6 b6 k6 z6))
      refine bodyPost_ret (results_cell_row rfl _ _ (w.heap.size + 1) _ _ (0, 0) _ rfl a6 Tryd.underlying30 rfl (by rw [List.size_toArray, List.length_map, ofill_length]; kernel_rfl)) rfl ⟨rfl, b6⟩
end Go.Proofs.YtobjgebojhjhnaaDoor
namespace Go.Proofs.YtobjgebojhjhnaaDoor
open Go.RowKit
attribute [local go_sem high] slB_lh slB_l slB_h nilB_eq
def sumB (bs : List UInt8) : List UInt8 :=
 outB (shFold ((bs.length % 64 + (padZ bs.length + 9)) / 64) (shFold (bs.length / 64) shInit bs) (bs.drop (64 * (bs.length / 64)) ++ padOf bs.length))
theorem sumB_length (bs : List UInt8) : (sumB bs).length = 32 := outB_length _
def dblB (bs : List UInt8) : List UInt8 := sumB (sumB bs)
theorem dblB_length (bs : List UInt8) : (dblB bs).length = 32 := sumB_length _
set_option maxRecDepth 10000 in
set_option maxHeartbeats 1000000 in
theorem Sum (bs : List UInt8) (B : Option Addr) (m c : Nat) (hm : bs.length = m) (hc : m ≤ c) (hm2 : m < 18446744073709551616) (w : World) (hr : Rd w B (bs.map bv)) (ht : Tabs w) :
    Calls Tryd.prog 70 #[.slice B m c] w fun e w' => e = .returned (.agg (hcs (sumB bs))) ∧ Below w.heap.size w w' := by
  have hz := zeros_32
  have hzl : (List.replicate 32 (0 : UInt8)).length = 32 := by simp
  obtain ⟨zs, hzs⟩ : ∃ zs : List UInt8, zs = List.replicate 32 0 := ⟨_, rfl⟩
  rw [← hzs] at hz hzl
  clear hzs
  replace hzl := Lib.hid hzl
  obtain ⟨ss, hss⟩ : ∃ l, l = sumB bs := ⟨_, rfl⟩
  have hsl : ss.length = 32 := by rw [hss, sumB_length]
  rw [← hss]
  replace hss := Lib.hid hss
  replace hsl := Lib.hid hsl
  replace hm := Lib.hid hm
  go_enter Tryd.func70, Tryd.ntmps70
  have hb0 := (Below.refl w.heap.size w).alloc (Nat.le_refl _) (.cells (zs.map bv).toArray 30)
  have ha2 : Av (w.alloc (.cells (zs.map bv).toArray 30)) w.heap.size 30 (zs.map bv) := heap_alloc_new _ _
  go_wp2_with fail
  generalize w.alloc (.cells (zs.map bv).toArray 30) = w0 at *
  refine (Start w0 (ht.below hb0)).mono ?_
  rintro e w1 ⟨rfl, b1⟩
  replace ha2 := ha2.below b1
  replace b1 := hb0.trans (b1.mono hb0.size)
  have HW := Write shInit (by rw [shInit, ifill_length]) [] none 0 0 rfl (by omega) (Nat.le_refl _) 0 (by omega) (by omega) rfl bs B m c hm.out hc (.inl rfl) w1 (Rd.nil _ _) (hr.below b1) (ht.below b1)
  rw [List.nil_append, Nat.zero_add] at HW
  have e1 : IntKind.u64.wrap (0 + IntKind.u64.wrap (m : Int)) = (m : Int) := by rw [IntKind.wrap_u64, IntKind.wrap_u64]; omega
  rw [e1] at HW
  obtain ⟨h1, hh1⟩ : ∃ l, l = shFold (m / 64) shInit bs := ⟨_, rfl⟩
  have hl1 : h1.length = 8 := by rw [hh1, shFold_length _ _ _ (by rw [shInit, ifill_length])]
  rw [← hh1] at HW
  replace HW := Lib.hid HW
  replace hh1 := Lib.hid hh1
  replace hl1 := Lib.hid hl1
  clear e1 hb0
  go_wp2_with fail
  refine HW.out.mono ?_
  rintro e w2 ⟨A2, c2, rfl, hc2, hr2, b2⟩
  clear HW
  replace ha2 := ha2.below b2
  replace b2 := b1.trans (b2.mono b1.size)
  have HE := End h1 hl1.out (bs.drop (64 * (m / 64))) A2 (m % 64) c2 (by rw [List.length_drop, hm.out]; omega) (by omega) hc2 m (by omega) rfl w2 hr2 (ht.below b2)
  rw [hh1.out] at HE
  have hss2 := hss.out
  rw [sumB, hm.out] at hss2
  rw [← hss2, ← hh1.out] at HE
  replace HE := Lib.hid HE
  clear hss2
  go_wp2_with fail
  refine HE.out.mono ?_
  rintro e w3 ⟨rfl, b3⟩
  clear HE
  replace ha2 := ha2.below b3
  replace b3 := b2.trans (b3.mono b2.size)
  go_wp2_with (refine wpList_storeAv b3 ha2 (Nat.le_refl _) rfl _ _ _ rfl rfl (ss.map bv) rfl 32 (by rw [List.length_map, hsl.out]) (by kernel_rfl) (by rw [List.size_toArray, List.length_map]; exact hzl.out) (by simp [Value.oneCell']) ?_
               intro w6 a6 b6 k6 z6)
  refine bodyPost_ret (results_cell_row rfl _ _ w.heap.size _ _ (0, 0) _ rfl a6 Tryd.underlying30 rfl (by rw [List.size_toArray, List.length_map, hsl.out]; kernel_rfl)) rfl ⟨rfl, b6⟩
set_option maxRecDepth 10000 in
set_option maxHeartbeats 1000000 in
theorem Double (bs : List UInt8) (B : Option Addr) (m c : Nat) (hm : bs.length = m) (hc : m ≤ c) (hm2 : m < 18446744073709551616) (w : World) (hr : Rd w B (bs.map bv)) (ht : Tabs w) :
    Calls Tryd.prog 41 #[.slice B m c] w fun e w' => e = .returned (.agg (hcs (dblB bs))) ∧ Below w.heap.size w w' := by
  have hz := zeros_32
  have hzl : (List.replicate 32 (0 : UInt8)).length = 32 := by simp
  obtain ⟨zs, hzs⟩ : ∃ zs : List UInt8, zs = List.replicate 32 0 := ⟨_, rfl⟩
  rw [← hzs] at hz hzl
  clear hzs
  replace hzl := Lib.hid hzl
  obtain ⟨ss, hss⟩ : ∃ l, l = sumB bs := ⟨_, rfl⟩
  have hsl : ss.length = 32 := by rw [hss, sumB_length]
  rw [dblB, ← hss]
  obtain ⟨dd, hdd⟩ : ∃ l, l = sumB ss := ⟨_, rfl⟩
  have hdl : dd.length = 32 := by rw [hdd, sumB_length]
  rw [← hdd]
  replace hss := Lib.hid hss
  replace hsl := Lib.hid hsl
  replace hdd := Lib.hid hdd
  replace hdl := Lib.hid hdl
  replace hm := Lib.hid hm
  go_enter Tryd.func41, Tryd.ntmps41
  have hb0 := (Below.refl w.heap.size w).alloc (Nat.le_refl _) (.cells (zs.map bv).toArray 30)
  have ha2 : Av (w.alloc (.cells (zs.map bv).toArray 30)) w.heap.size 30 (zs.map bv) := heap_alloc_new _ _
  go_wp2_with fail
  generalize w.alloc (.cells (zs.map bv).toArray 30) = w0 at *
  refine (Sum bs B m c hm.out hc hm2 w0 (hr.below hb0) (ht.below hb0)).mono ?_
  rintro e w1 ⟨rfl, b1⟩
  rw [← hss.out]
  replace ha2 := ha2.below b1
  replace b1 := hb0.trans (b1.mono hb0.size)
  have q1 := Lib.hid ha2.lt
  go_wp2_with (refine wpList_storeAv (b1.alloc b1.size _) (heap_alloc_new _ _) b1.size rfl _ _ _ rfl rfl (ss.map bv) rfl 32 (by rw [List.length_map, hsl.out]) (by kernel_rfl) (by rw [List.size_toArray, List.length_map]; exact hzl.out) (by simp [Value.oneCell']) ?_
               intro w2 a3 b2 k2 z2
               replace z2 := Lib.hid z2
               replace ha2 := (ha2.alloc (.cells (zs.map bv).toArray 30)).same (k2 _ (Nat.ne_of_lt q1.out)))
  refine (Sum ss _ 32 32 hsl.out (Nat.le_refl _) (by omega) w2 a3.rd (ht.below b2)).mono ?_
  rintro e w3 ⟨rfl, b3⟩
  rw [← hdd.out]
  replace ha2 := ha2.below b3
  replace b3 := b2.trans (b3.mono b2.size)
  go_wp2_with (refine wpList_storeAv b3 ha2 (Nat.le_refl _) rfl _ _ _ rfl rfl (dd.map bv) rfl 32 (by rw [List.length_map, hdl.out]) (by kernel_rfl) (by rw [List.size_toArray, List.length_map]; exact hzl.out) (by simp [Value.oneCell']) ?_
               intro w6 a6 b6 k6 z6)
  refine bodyPost_ret (results_cell_row rfl _ _ w.heap.size _ _ (0, 0) _ rfl a6 Tryd.underlying30 rfl (by rw [List.size_toArray, List.length_map, hdl.out]; kernel_rfl)) rfl ⟨rfl, b6⟩
end Go.Proofs.YtobjgebojhjhnaaDoor
namespace Go.Proofs.YtobjgebojhjhnaaDoor
open Go.RowKit
structure Hd where
 ver : Nat
 prev : List UInt8
 root : List UInt8
 time : Nat
 bits : Nat
 nonce : Nat
deriving DecidableEq
def Hd.ok (h : Hd) : Prop := h.ver < 4294967296 ∧ h.prev.length = 32 ∧ h.root.length = 32 ∧ h.time < 4294967296 ∧ h.bits < 4294967296 ∧ h.nonce < 4294967296
def hdc (h : Hd) : List Value := [.int .u32 (h.ver : Int)] ++ (h.prev.map bv ++ (h.root.map bv ++ [.int .u32 (h.time : Int), .int .u32 (h.bits : Int), .int .u32 (h.nonce : Int)]))
def hdB (h : Hd) : List UInt8 := Cm.lo 4 h.ver ++ (h.prev ++ (h.root ++ (Cm.lo 4 h.time ++ (Cm.lo 4 h.bits ++ Cm.lo 4 h.nonce))))
def hdId (h : Hd) : List UInt8 := dblB (hdB h)
theorem hdId_length (h : Hd) : (hdId h).length = 32 := dblB_length _
theorem hdB_length {h : Hd} (k : h.ok) : (hdB h).length = 80 := by
 obtain ⟨_, h1, h2, _⟩ := k
 simp [hdB, Cm.lo_length, h1, h2]
theorem hdc_length {h : Hd} (k : h.ok) : (hdc h).length = 68 := by
 obtain ⟨_, h1, h2, _⟩ := k
 simp [hdc, h1, h2]
theorem hdc_one (h : Hd) : ∀ u ∈ hdc h, u.oneCell' = true := by
 intro u hu
 simp only [hdc, List.mem_append, List.mem_cons, List.not_mem_nil, or_false, List.mem_map] at hu
 rcases hu with rfl | ⟨_, _, rfl⟩ | ⟨_, _, rfl⟩ | rfl | rfl | rfl <;> rfl
theorem hdc_at {h : Hd} (k : h.ok) : (hdc h)[0]? = some (.int .u32 (h.ver : Int)) ∧ (hdc h)[65]? = some (.int .u32 (h.time : Int)) ∧ (hdc h)[66]? = some (.int .u32 (h.bits : Int)) ∧ (hdc h)[67]? = some (.int .u32 (h.nonce : Int)) := by
 obtain ⟨_, h1, h2, _⟩ := k
 refine ⟨rfl, ?_, ?_, ?_⟩ <;>
 ·unfold hdc
  rw [List.getElem?_append_right (by simp), List.getElem?_append_right (by simp [h1]), List.getElem?_append_right (by simp [h1, h2])]
  simp [h1, h2]
theorem Av.hd_prev {w : World} {g : Nat} {t : TypeId} {h : Hd} (a : Av w g t (hdc h)) : w.rangeAt g 1 (h.prev.map bv) :=
 Av.rangeAt (pre := [.int .u32 (h.ver : Int)]) (rest := h.root.map bv ++ [.int .u32 (h.time : Int), .int .u32 (h.bits : Int), .int .u32 (h.nonce : Int)]) (by simpa [hdc] using a) 1 rfl
theorem Av.hd_root {w : World} {g : Nat} {t : TypeId} {h : Hd} (k : h.ok) (a : Av w g t (hdc h)) : w.rangeAt g 33 (h.root.map bv) :=
 Av.rangeAt (pre := [.int .u32 (h.ver : Int)] ++ h.prev.map bv) (rest := [.int .u32 (h.time : Int), .int .u32 (h.bits : Int), .int .u32 (h.nonce : Int)]) (by simpa [hdc] using a) 33 (by simp [k.2.1])
theorem rd_of_range {w : World} {g o : Nat} {cs : List Value} (h : w.rangeAt g o cs) : Rd w (some ⟨g, o, none⟩) cs := .inr ⟨g, o, rfl, fun j u hu => h j u hu⟩
end Go.Proofs.YtobjgebojhjhnaaDoor
namespace Go.Proofs.YtobjgebojhjhnaaDoor
open Go.RowKit
theorem byte_of32 (n k : Nat) : IntKind.u8.wrap ((n : Int) / 2 ^ (8 * k)) = ((UInt8.ofNat (n / 256 ^ k)).toNat : Int) := by
 have h := byte_at (n : Int) (by omega) k
 rw [IntKind.wrap_u8, h]
 simp
theorem wpList_copyF {P : Program} {w : World} {g : Nat} {t : TypeId} {l : List Value} (h : Av w g t l) {dT sT : TypeId} (elem : TypeId) (hu : P.underlying dT = some (.slice elem)) (hs : (P.info? elem).map (·.size) = some 1) (off dLen dCap : Nat) (A : Option Addr) (m c : Nat) (xs : List Value)
  (hr : Rd w A xs) (hl : xs.length = min m dLen) (hfit : off + xs.length ≤ l.length) (h1 : ∀ v ∈ xs, v.oneCell' = true) {ops : Array Oper} {rest : List Oper} {a : Act} {Q : Exit → Act → World → Prop} {d tp pos af} {x y : Operand}
  (hx : a.eval x = .slice (some ⟨g, off, none⟩) dLen dCap) (hy : a.eval y = .slice A m c)
  (k : ∀ w', Av w' g t (l.take off ++ xs ++ l.drop (off + xs.length)) → Fr (fun k => k = g) w w' → wpList P ops Q rest (a.put d (goInt xs.length)) w') :
  wpList P ops Q (⟨d, .call { callee := .builtin .copy, args := #[x, y], argTypes := #[dT, sT] }, tp, pos, af, none⟩ :: rest) a w := by
 obtain ⟨w', hrun, h2, h3, _⟩ := exec_copyAv h dT sT elem hu hs off dLen dCap A m c xs hr hl hfit h1 ⟨d, .call { callee := .builtin .copy, args := #[x, y], argTypes := #[dT, sT] }, tp, pos, af, none⟩ x y rfl hx hy
 exact wpList_execW rfl hrun (k w' h2 h3)
theorem fill_at (pre xs post : List Value) (N k o : Nat) (ho : pre.length = o) (hx : xs.length = 4) (hk : k < 4) :
  (pre ++ ((Cm.lo k N).map bv ++ (xs.drop k ++ post))).set (o + k) (bv (UInt8.ofNat (N / 256 ^ k))) = pre ++ ((Cm.lo (k + 1) N).map bv ++ (xs.drop (k + 1) ++ post)) := by
 obtain ⟨x, hx2⟩ : ∃ x, xs.drop k = x :: xs.drop (k + 1) := by
  refine ⟨xs[k]'(by omega), ?_⟩
  rw [List.getElem_cons_drop]
 rw [hx2, Cm.lo_snoc, List.map_append, List.set_append_right _ _ (by omega), List.set_append_right _ _ (by simp [Cm.lo_length]; omega)]
 simp [Cm.lo_length, ← ho]
set_option maxRecDepth 10000 in
set_option maxHeartbeats 1000000 in
theorem Lay (g o n c : Nat) (t : TypeId) (pre xs post : List Value) (ho : pre.length = o) (hx : xs.length = 4) (hn : 4 ≤ n) (N : Nat) (w : World) (hA : Av w g t (pre ++ (xs ++ post))) :
  Calls Tryd.prog 69 #[.slice (some ⟨g, o, none⟩) n c, .int .u32 (N : Int)] w fun e w' => (∃ r, e = .returned r) ∧ Av w' g t (pre ++ ((Cm.lo 4 N).map bv ++ post)) ∧ Fr (fun k => k = g) w w' := by
 go_enter Tryd.func69, Tryd.ntmps69
 go_wp2
 go_loopw [5] (fun i wr => ∃ k : Nat, k ≤ 4 ∧ i = .int .i64 (k : Int) ∧ Av wr g t (pre ++ ((Cm.lo k N).map bv ++ (xs.drop k ++ post))) ∧ Fr (fun k => k = g) w wr) (fun i _ => 4 - (intOf i).toNat)
 case atStart => exact ⟨0, by omega, rfl, by simpa [Cm.lo] using hA, Fr.refl _ _⟩
 case round =>
  obtain ⟨k, hk, rfl, ha, hf⟩ := hrel
  by_cases hlt : k < 4
  ·have t1 : decide ((k : Int) < 4) = true := by simp; omega
   have e1 : IntKind.i64.wrap (8 * (k : Int)) = 8 * (k : Int) := by rw [IntKind.wrap_i64]; omega
   have e2 : 0 ≤ 8 * (k : Int) := by omega
   have e3 : 8 * (k : Int) < 32 := by omega
   have e4 : (8 * (k : Int)).toNat = 8 * k := by omega
   have e5 := byte_of32 N k
   have e6 : (k : Int) < (n : Int) := by omega
   have hlen : (pre ++ ((Cm.lo k N).map bv ++ (xs.drop k ++ post))).length = pre.length + 4 + post.length := by simp [Cm.lo_length, hx]; omega
   obtain ⟨C, hC⟩ : ∃ C, C = pre ++ ((Cm.lo k N).map bv ++ (xs.drop k ++ post)) := ⟨_, rfl⟩
   rw [← hC] at ha hlen
   have hset := fill_at pre xs post N k o ho hx hlt
   rw [← hC] at hset
   obtain ⟨u, hu⟩ : ∃ u, C[o + k]? = some u := ⟨_, List.getElem?_eq_getElem (by omega)⟩
   have hc := ha.cell (o + k) u hu
   have hfz := frozen_of_row wr g (o + k) _ _ ha
   have a2 := ha.set (o + k) (bv (UInt8.ofNat (N / 256 ^ k)))
   rw [hset] at a2
   have f2 := hf.trans (Fr.setCell wr ⟨g, o + k, none⟩ (bv (UInt8.ofNat (N / 256 ^ k))))
   replace hset := Lib.hid hset
   replace hC := Lib.hid hC
   replace hu := Lib.hid hu
   replace hlen := Lib.hid hlen
   go_wp2
   refine ⟨⟨k + 1, by omega, by go_num, a2, f2⟩, ?_⟩
   simp [intOf]; omega
  ·obtain rfl : k = 4 := by omega
   go_wp2
   go_end0
   refine ⟨⟨_, rfl⟩, ?_, hf⟩
   rw [List.drop_eq_nil_of_le (by omega), List.nil_append] at ha
   exact ha
end Go.Proofs.YtobjgebojhjhnaaDoor
