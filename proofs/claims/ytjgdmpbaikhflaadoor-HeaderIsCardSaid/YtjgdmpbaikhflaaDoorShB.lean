/- Block: one block of SHA-256. -/
import Derived.Test.YtjgdmpbaikhflaaDoorShW
namespace Go.Proofs.YtjgdmpbaikhflaaDoor
open Go.RowKit
theorem xor_max_wn (x : W32) : bits .xor .u32 IntKind.u32.max (wn x) = wn (~~~x) := by
  have h : IntKind.u32.max = wn (~~~0) := by rw [wn_def]; rfl
  rw [h, bits_xor_wn]
  congr 1
attribute [local go_sem high] bits_xor_wn bits_or_wn bits_and_wn wrap_add_wn xor_max_wn

/-- one round -/
def shRound (ka wk : W32) : List W32 → List W32
  | [v0, v1, v2, v3, v4, v5, v6, v7] =>
    let t1 := v7 + (rotr v4 6 ^^^ rotr v4 11 ^^^ rotr v4 25) + (v4 &&& v5 ^^^ ~~~v4 &&& v6) + ka + wk
    let t2 := (rotr v0 2 ^^^ rotr v0 13 ^^^ rotr v0 22) + (v0 &&& v1 ^^^ v0 &&& v2 ^^^ v1 &&& v2)
    [t1 + t2, v0, v1, v2, v3 + t1, v4, v5, v6]
  | v => v
theorem len8 {l : List W32} (h : l.length = 8) : ∃ v0 v1 v2 v3 v4 v5 v6 v7, l = [v0, v1, v2, v3, v4, v5, v6, v7] := by
  match l, h with
  | [v0, v1, v2, v3, v4, v5, v6, v7], _ => exact ⟨v0, v1, v2, v3, v4, v5, v6, v7, rfl⟩

theorem Ar.same {w w' : World} {g : Nat} {t : TypeId} {l : List W32} (h : Ar w g t l) (hs : w'.heap[g]? = w.heap[g]?) : Ar w' g t l := by
  unfold Ar; rw [hs]; exact h
theorem Ar.alloc {w : World} {g : Nat} {t : TypeId} {l : List W32} (h : Ar w g t l) (o : Obj) : Ar (w.alloc o) g t l :=
  h.same (heap_alloc_old _ _ h.lt)
/-- a whole array is read -/
theorem wpList_loadAr {P : Program} {ops : Array Oper} {rest : List Oper} {o : Oper} {a : Act} {w : World} {Q : Exit → Act → World → Prop} {g : Nat} {t : TypeId} {l : List W32} (h : Ar w g t l)
    (hgd : o.guard = none) (ty : TypeId) (x : Operand) (ho : o.op = .load ty x) (hx : a.eval x = .pointer (some ⟨g, 0, none⟩)) (d : TypeDesc) (n : Nat) (hn : l.length = n)
    (hu : P.underlying ty = some d) (hd : (match d with | .struct _ | .array _ _ => true | _ => false) = true) (hi : (P.info? ty).map (·.size) = some n)
    (k : wpList P ops Q rest (a.put o.dst (.agg (wcs l))) w) : wpList P ops Q (o :: rest) a w :=
  wpList_load_row hgd ty x ho g hx t (wcs l) (0, 0) d h hu hd (by rw [wcs_size, hn]; exact hi) k
/-- a whole array is written into a block of the call's own -/
theorem wpList_storeAr {P : Program} {ops : Array Oper} {rest : List Oper} {o : Oper} {a : Act} {w w0 : World} {B : Nat} {Q : Exit → Act → World → Prop} {g : Nat} {t : TypeId} {old : Array Value} (hb : Below B w0 w) (h : w.heap[g]? = some (.cells old t (0, 0))) (hB : B ≤ g)
    (hgd : o.guard = none) (ty : TypeId) (x y : Operand) (ho : o.op = .store ty x y) (hx : a.eval x = .pointer (some ⟨g, 0, none⟩)) (l : List W32) (hy : a.eval y = .agg (wcs l)) (n : Nat) (hn : l.length = n)
    (hi : (P.info? ty).map (·.size) = some n) (hold : old.size = n)
    (k : ∀ w2, Ar w2 g t l → Below B w0 w2 → (∀ k, k ≠ g → w2.heap[k]? = w.heap[k]?) → w2.heap.size = w.heap.size → wpList P ops Q rest (a.put o.dst undef) w2) : wpList P ops Q (o :: rest) a w :=
  wpList_store_row hgd ty x y ho g (wcs l) hx hy t old h (by rw [wcs_size, hn]; exact hi) (by rw [wcs_size, hn]; exact hold) (by simp [wcs, Value.oneCell'])
    (k _ (setRow_heap _ _ _ _ _ _ h) (below_setRow hb _ _ hB) (fun _ hk => setRow_other _ _ _ _ hk) (by simp))

def addv (h v : List W32) : Nat → List W32
  | 0 => v
  | k + 1 => (addv h v k).set k ((addv h v k).getD k 0 + h.getD k 0)
theorem addv_length (h v : List W32) (k : Nat) : (addv h v k).length = v.length := by
  induction k with
  | zero => rfl
  | succ k ih => rw [addv, List.length_set, ih]
theorem alloc_size (v : World) (o : Obj) : (v.alloc o).heap.size = v.heap.size + 1 := by simp
def shRounds (ws h : List W32) : Nat → List W32
  | 0 => h
  | k + 1 => shRound (kAt k) (ws.getD k 0) (shRounds ws h k)

theorem shRounds_length (ws h : List W32) (hh : h.length = 8) (k : Nat) : (shRounds ws h k).length = 8 := by
  induction k with
  | zero => exact hh
  | succ k ih =>
    obtain ⟨v0, v1, v2, v3, v4, v5, v6, v7, e⟩ := len8 ih
    rw [shRounds, e]; rfl
/-- one block -/
def shBlock (h : List W32) (bs : List UInt8) : List W32 := addv h (shRounds (shW bs) h 64) 8
/-- What the loops of Block keep. -/
structure BlkW (w wr : World) (g5 g6 : Nat) (h zs ws v : List W32) : Prop where
  b : Below w.heap.size w wr
  a1 : Ar wr w.heap.size 73 h
  a2 : Ar wr (w.heap.size + 1) 73 zs
  a5 : Ar wr g5 104 ws
  a6 : Ar wr g6 73 v
  t : Tabs wr
theorem BlkW.drew {w wr : World} {g5 g6 : Nat} {h zs ws v : List W32} (B : BlkW w wr g5 g6 h zs ws v) : BlkW w wr.drew g5 g6 h zs ws v :=
  ⟨B.b.drew, B.a1, B.a2, B.a5, B.a6, ⟨B.t.k, B.t.i⟩⟩

set_option maxRecDepth 10000 in
set_option maxHeartbeats 4000000 in
theorem Block (hin : List W32) (hh : hin.length = 8) (bs : List UInt8) (A : Option Addr) (c : Nat) (hl : bs.length = 64) (w : World) (hr : Rd w A (bs.map bv)) (ht : Tabs w) :
    Calls Tryd.prog 59 #[.agg (wcs hin), .slice A 64 c] w fun e w' => e = .returned (.agg (wcs (shBlock hin bs))) ∧ Below w.heap.size w w' := by
  go_enter Tryd.func59, Tryd.ntmps59
  obtain ⟨ws, hws⟩ : ∃ ws, ws = shW bs := ⟨_, rfl⟩
  have hwl : ws.length = 64 := by rw [hws, shW_length]
  have W := words bs A c hl
  rw [← hws] at W
  replace hws := Lib.hid hws
  obtain ⟨zs, hzs⟩ : ∃ zs : List W32, zs = List.replicate 8 0 := ⟨_, rfl⟩
  have hzl : zs.length = 8 := by rw [hzs]; rfl
  have hz : #[Value.int IntKind.u32 0, Value.int IntKind.u32 0, Value.int IntKind.u32 0, Value.int IntKind.u32 0, Value.int IntKind.u32 0, Value.int IntKind.u32 0, Value.int IntKind.u32 0, Value.int IntKind.u32 0] = wcs zs := by rw [hzs, wcs_zeros]; rfl
  clear hzs
  replace W := Lib.hid W
  replace hzl := Lib.hid hzl
  replace hh := Lib.hid hh
  replace hwl := Lib.hid hwl
  go_wp2_with fail
  have hb0 : Below w.heap.size w ((w.alloc (.cells (wcs hin) 73)).alloc (.cells (wcs zs) 73)) := ((Below.refl _ _).alloc (Nat.le_refl _) _).alloc (by simp) _
  have ha1 : Ar ((w.alloc (.cells (wcs hin) 73)).alloc (.cells (wcs zs) 73)) w.heap.size 73 hin := heap_alloc2_old _ _ _
  have ha2 : Ar ((w.alloc (.cells (wcs hin) 73)).alloc (.cells (wcs zs) 73)) (w.heap.size + 1) 73 zs := heap_alloc2_new _ _ _
  clear hz
  generalize (w.alloc (.cells (wcs hin) 73)).alloc (.cells (wcs zs) 73) = w0 at *
  refine (W.out w0 (hr.below hb0)).mono ?_
  rintro e w1 ⟨rfl, hb1⟩
  replace ha1 := ha1.below hb1
  replace ha2 := ha2.below hb1
  have q5 := Lib.hid ha2.lt
  replace hb1 := hb0.trans (hb1.mono hb0.size)
  clear hb0
  go_wp2_with (first
    | (refine wpList_storeAr (hb1.alloc (hb1.size) _) (heap_alloc_new _ _) hb1.size rfl _ _ _ rfl rfl ws rfl 64 hwl.out (by kernel_rfl) rfl ?_
       intro w2 a5 b2 k2 z2
       replace ha1 := (ha1.alloc _).same (k2 _ (Nat.ne_of_lt ha1.lt))
       replace ha2 := (ha2.alloc _).same (k2 _ (Nat.ne_of_lt ha2.lt))
       rw [alloc_size] at z2
       replace z2 := Lib.hid z2
       clear k2)
    | refine wpList_loadAr ha1 rfl _ _ rfl rfl _ 8 hh.out Tryd.underlying73 rfl (by kernel_rfl) ?_
    | (refine wpList_storeAr (b2.alloc (b2.size) _) (heap_alloc_new _ _) b2.size rfl _ _ _ rfl rfl hin rfl 8 hh.out (by kernel_rfl) rfl ?_
       intro w3 a6 b3 k3 z3
       replace ha1 := (ha1.alloc _).same (k3 _ (Nat.ne_of_lt ha1.lt))
       replace ha2 := (ha2.alloc _).same (k3 _ (Nat.ne_of_lt ha2.lt))
       replace a5 := (a5.alloc _).same (k3 _ (Nat.ne_of_lt a5.lt))
       rw [alloc_size] at z3
       replace z3 := Lib.hid z3
       clear k3))
  have B0 : BlkW w w3 w1.heap.size w2.heap.size hin zs ws hin := ⟨b3, ha1, ha2, a5, a6, ht.below b3⟩
  clear b2 b3 ha1 ha2 a5 a6 W hr hb1
  go_loopw [22] (fun i wr => ∃ k : Nat, k ≤ 64 ∧ i = .int .i64 k ∧ BlkW w wr w1.heap.size w2.heap.size hin zs ws (shRounds ws hin k)) (fun i _ => 64 - (intOf i).toNat)
  case atStart => exact ⟨0, by omega, rfl, B0⟩
  case round =>
    clear B0
    obtain ⟨k, hk, rfl, B⟩ := hrel
    by_cases hk64 : k < 64
    · have hvl := shRounds_length ws hin hh.out k
      obtain ⟨v, hv⟩ : ∃ v, v = shRounds ws hin k := ⟨_, rfl⟩
      rw [← hv] at B hvl
      replace hv := Lib.hid hv
      obtain ⟨v0, v1, v2, v3, v4, v5, v6, v7, rfl⟩ := len8 hvl
      clear hvl
      obtain ⟨x, hx⟩ : ∃ x, x = ws.getD k 0 := ⟨_, rfl⟩
      have hcw : ∀ W, Ar W w1.heap.size 104 ws → W.cell? ⟨w1.heap.size, k, none⟩ = some (wc x) := fun W a => by rw [hx]; exact a.cell k (by rw [hwl.out]; exact hk64)
      replace hx := Lib.hid hx
      replace hcw := Lib.hid hcw
      have hk0 : 0 ≤ (k : Int) := by omega
      have hk1 : (k : Int) < 64 := by omega
      have T6 := turned v4 6 6 rfl (by decide) (by decide)
      have T11 := turned v4 11 11 rfl (by decide) (by decide)
      have T25 := turned v4 25 25 rfl (by decide) (by decide)
      have T2 := turned v0 2 2 rfl (by decide) (by decide)
      have T13 := turned v0 13 13 rfl (by decide) (by decide)
      have T22 := turned v0 22 22 rfl (by decide) (by decide)
      have c4 : wr.cell? _ = some (wc v4) := B.a6.cell 4 (by simp)
      go_wp2
      refine wp_region_still_lit (by kernel_rfl) (by kernel_rfl) ?_
      repeat still_step
      still_call (T6 _)
      repeat still_step
      still_call (T11 _)
      repeat still_step
      still_call (T25 _)
      repeat still_step
      refine wpStill_nil ?_
      change Exit.then _ _ _ _ wr.drew
      clear c4
      replace B := B.drew
      generalize wr.drew = wa at B ⊢
      have c4 : wa.cell? _ = some (wc v4) := B.a6.cell 4 (by simp)
      have c5 : wa.cell? _ = some (wc v5) := B.a6.cell 5 (by simp)
      have c6 : wa.cell? _ = some (wc v6) := B.a6.cell 6 (by simp)
      have c7 : wa.cell? _ = some (wc v7) := B.a6.cell 7 (by simp)
      have cw := hcw.out wa B.a5
      go_wp2
      refine wp_region_still_lit (by kernel_rfl) (by kernel_rfl) ?_
      repeat still_step
      still_call (Constant _ hk0 hk1 _ ⟨B.t.k, B.t.i⟩)
      repeat still_step
      refine wpStill_nil ?_
      change Exit.then _ _ _ _ wa.drew
      clear c4 c5 c6 c7 cw
      replace B := B.drew
      generalize wa.drew = wb at B ⊢
      have c0 : wb.cell? _ = some (wc v0) := B.a6.cell 0 (by simp)
      go_wp2
      refine wp_region_still_lit (by kernel_rfl) (by kernel_rfl) ?_
      repeat still_step
      still_call (T2 _)
      repeat still_step
      still_call (T13 _)
      repeat still_step
      still_call (T22 _)
      repeat still_step
      refine wpStill_nil ?_
      change Exit.then _ _ _ _ wb.drew
      clear c0
      replace B := B.drew
      generalize wb.drew = wd at B ⊢
      have c0 : wd.cell? _ = some (wc v0) := B.a6.cell 0 (by simp)
      have c1 : wd.cell? _ = some (wc v1) := B.a6.cell 1 (by simp)
      have c2 : wd.cell? _ = some (wc v2) := B.a6.cell 2 (by simp)
      have c3 : wd.cell? _ = some (wc v3) := B.a6.cell 3 (by simp)
      have c4 : wd.cell? _ = some (wc v4) := B.a6.cell 4 (by simp)
      have c5 : wd.cell? _ = some (wc v5) := B.a6.cell 5 (by simp)
      have c6 : wd.cell? _ = some (wc v6) := B.a6.cell 6 (by simp)
      have c7 : wd.cell? _ = some (wc v7) := B.a6.cell 7 (by simp)
      go_wp2_with (refine wpList_storeAr B.b B.a6 (by have := q5.out; have := z2.out; omega) rfl _ _ _ rfl rfl (shRound (kAt k) x [v0, v1, v2, v3, v4, v5, v6, v7]) rfl 8 rfl (by kernel_rfl) rfl ?_; intro w4 a6 b4 k4 z4)
      have n1 : w.heap.size ≠ w2.heap.size := by have := q5.out; have := z2.out; omega
      have n2 : w.heap.size + 1 ≠ w2.heap.size := by have := q5.out; have := z2.out; omega
      have n5 : w1.heap.size ≠ w2.heap.size := by have := z2.out; omega
      refine ⟨⟨k + 1, by omega, by go_num, ⟨b4, B.a1.same (k4 _ n1), B.a2.same (k4 _ n2), B.a5.same (k4 _ n5), ?_, ht.below b4⟩⟩, ?_⟩
      · rw [shRounds, ← hv.out, ← hx.out]; exact a6
      · simp [intOf]; omega
    · obtain rfl : k = 64 := by omega
      clear hk64 hk
      have hvl := shRounds_length ws hin hh.out 64
      obtain ⟨v, hv⟩ : ∃ v, v = shRounds ws hin 64 := ⟨_, rfl⟩
      rw [← hv] at B hvl
      replace hv := Lib.hid hv
      replace hvl := Lib.hid hvl
      obtain ⟨wo, rfl⟩ : ∃ wo : World, wo = wr := ⟨_, rfl⟩
      go_wp2
      go_loopw [113] (fun i wr => ∃ k : Nat, k ≤ 8 ∧ i = .int .i64 k ∧ BlkW w wr w1.heap.size w2.heap.size hin zs ws (addv hin v k)) (fun i _ => 8 - (intOf i).toNat)
      case atStart => exact ⟨0, by omega, rfl, B⟩
      case round =>
        clear B
        obtain ⟨k, hk, rfl, B⟩ := hrel
        by_cases hk8 : k < 8
        · have hk0 : 0 ≤ (k : Int) := by omega
          have hk1 : (k : Int) < 8 := by omega
          have hce := B.a6.cell k (by rw [addv_length, hvl.out]; exact hk8)
          have hc1 := B.a1.cell k (by rw [hh.out]; exact hk8)
          have hfz : wr.frozen? ⟨w2.heap.size, k, none⟩ = false := frozen_of_row _ _ _ _ _ B.a6
          obtain ⟨x, hx⟩ : ∃ x, x = (addv hin v k).getD k 0 := ⟨_, rfl⟩
          obtain ⟨y, hy⟩ : ∃ y, y = hin.getD k 0 := ⟨_, rfl⟩
          rw [← hx] at hce
          rw [← hy] at hc1
          replace hx := Lib.hid hx
          replace hy := Lib.hid hy
          go_wp2
          go_still_tail 8, (by kernel_rfl)
          change wpList _ _ _ _ _ (World.drew _)
          go_wp2
          refine ⟨?_, ?measure⟩
          iterate 13 (apply Exists.intro)
          refine ⟨?rel, rfl⟩
          case rel =>
            have n1 : w.heap.size ≠ w2.heap.size := by have := q5.out; have := z2.out; omega
            have n2 : w.heap.size + 1 ≠ w2.heap.size := by have := q5.out; have := z2.out; omega
            have n5 : w1.heap.size ≠ w2.heap.size := by have := z2.out; omega
            have b4 := (B.b.setCell (p := ⟨w2.heap.size, k, none⟩) (by have := q5.out; have := z2.out; simp only; omega) (wc (x + y))).drew
            refine ⟨k + 1, by omega, by go_num, ⟨b4, (B.a1.other _ _ n1).drew, (B.a2.other _ _ n2).drew, (B.a5.other _ _ n5).drew, ?_, ht.below b4⟩⟩
            rw [addv, ← hx.out, ← hy.out]
            exact (B.a6.set k (x + y)).drew
          case measure => simp [intOf]; omega
        · obtain rfl : k = 8 := by omega
          clear hk8 hk
          have hvl2 : (addv hin v 8).length = 8 := by rw [addv_length, hvl.out]
          obtain ⟨v2, hv2⟩ : ∃ l, l = addv hin v 8 := ⟨_, rfl⟩
          rw [← hv2] at B hvl2
          replace hv2 : Hid (v2 = shBlock hin bs) := Lib.hid (by rw [hv2, hv.out, hws.out]; rfl)
          go_wp2_with (first
            | refine wpList_loadAr B.a6 rfl _ _ rfl rfl _ 8 hvl2 Tryd.underlying73 rfl (by kernel_rfl) ?_
            | (refine wpList_storeAr B.b B.a2 (by omega) rfl _ _ _ rfl rfl v2 rfl 8 hvl2 (by kernel_rfl) (by rw [wcs_size, hzl.out]) ?_
               intro w4 a2 b4 k4 z4))
          exact bodyPost_ret (v := .agg (wcs v2)) (results_cell_row rfl _ _ (w.heap.size + 1) _ _ (0, 0) _ rfl a2 Tryd.underlying73 rfl (by rw [wcs_size, hvl2]; kernel_rfl)) rfl ⟨by rw [← hv2.out], b4⟩
end Go.Proofs.YtjgdmpbaikhflaaDoor
