/- Hash; Pr; Mk: put together for the claim. -/
import Derived.Test.YtdkknincamkhpaaDoorPr5
/- Hashes in memory: slices of hashes. -/
namespace Go.Proofs.YtdkknincamkhpaaDoor
open Go.RowKit

/-- the cells of hashes -/
def hcl (l : List (List UInt8)) : List Value := l.flatMap fun x => x.map bv
def All32 (l : List (List UInt8)) : Prop := ∀ x ∈ l, x.length = 32
theorem hcl_cons (x : List UInt8) (l : List (List UInt8)) : hcl (x :: l) = x.map bv ++ hcl l := rfl
theorem hcl_append (l k : List (List UInt8)) : hcl (l ++ k) = hcl l ++ hcl k := by simp [hcl]
theorem hcl_one (x : List UInt8) : hcl [x] = x.map bv := by simp [hcl]
theorem All32.tail {x : List UInt8} {l : List (List UInt8)} (h : All32 (x :: l)) : All32 l := fun y hy => h y (List.mem_cons_of_mem _ hy)
theorem All32.get {l : List (List UInt8)} (h : All32 l) (i : Nat) (hi : i < l.length) : (l.getD i []).length = 32 := by
  rw [List.getD_eq_getElem?_getD, List.getElem?_eq_getElem hi]
  exact h _ (List.getElem_mem hi)
theorem All32.append {l k : List (List UInt8)} (h : All32 l) (h' : All32 k) : All32 (l ++ k) := fun x hx => (List.mem_append.1 hx).elim (h x) (h' x)
theorem All32.one {x : List UInt8} (h : x.length = 32) : All32 [x] := fun y hy => by rw [List.mem_singleton.1 hy]; exact h
theorem hcl_length {l : List (List UInt8)} (h : All32 l) : (hcl l).length = 32 * l.length := by
  induction l with
  | nil => rfl
  | cons x l ih => rw [hcl_cons, List.length_append, List.length_map, ih h.tail, h x (List.mem_cons_self ..), List.length_cons]; omega
theorem hcl_get {l : List (List UInt8)} (h : All32 l) (i j : Nat) (hi : i < l.length) (hj : j < 32) : (hcl l)[32 * i + j]? = ((l.getD i []).map bv)[j]? := by
  induction l generalizing i with
  | nil => simp at hi
  | cons x l ih =>
    have hx := h x (List.mem_cons_self ..)
    cases i with
    | zero => rw [hcl_cons, Nat.mul_zero, Nat.zero_add, List.getElem?_append_left (by rw [List.length_map, hx]; exact hj)]; rfl
    | succ i =>
      rw [hcl_cons, List.getElem?_append_right (by rw [List.length_map, hx]; omega), List.length_map, hx, show 32 * (i + 1) + j - 32 = 32 * i + j by omega, ih h.tail i (by simpa using hi)]
      rfl
theorem hcl_one' (l : List (List UInt8)) : ∀ u ∈ hcl l, u.oneCell' = true := by
  intro u hu
  simp only [hcl, List.mem_flatMap, List.mem_map] at hu
  obtain ⟨_, _, b, _, rfl⟩ := hu
  rfl
/-- one hash of many -/
theorem Rd.hash {w : World} {b off : Nat} {l : List (List UInt8)} (h : Rd w (some ⟨b, off, none⟩) (hcl l)) (h32 : All32 l) (i : Nat) (hi : i < l.length) : w.rangeAt b (off + i * 32) ((l.getD i []).map bv) := by
  intro j v hv
  have hj : j < 32 := by
    have := (List.getElem?_eq_some_iff.1 hv).1
    rw [List.length_map, h32.get i hi] at this
    exact this
  rw [← hcl_get h32 i j hi hj] at hv
  rcases h with h | ⟨b', off', hA, hc⟩
  · rw [h] at hv; simp at hv
  · cases hA
    rw [show off + i * 32 + j = off + (32 * i + j) by omega]
    exact hc _ _ hv
theorem hcl_ne {l : List (List UInt8)} (h : All32 l) (hl : 0 < l.length) : hcl l ≠ [] := fun e => by
  have := hcl_length h
  rw [e] at this
  simp at this
  omega

theorem info_h : (Tryd.prog.info? 28).map (fun i => (i.size, i.bytes)) = some (32, 32) := by kernel_rfl
theorem zero_h : (Tryd.prog.info? 28).map (fun i => (i.zero.map (·.cells))) = some (some (Array.replicate 32 (.int .u8 0))) := by kernel_rfl

/-- 'append(s, x..)' of hashes -/
theorem wpList_appH {w0 w : World} {base : Nat} {v : Value} {n : Nat} {xs : List (List UInt8)} (hown : w.ownsRow base 28 32 v n (hcl xs)) (hb : Below base w0 w) (hbase : base ≤ w.heap.size)
    {A : Option Addr} {l : List (List UInt8)} (h32 : All32 l) (m c : Nat) (hr : Rd w A (hcl l)) (hl : l.length = m) (hm : (n + m) * 32 ≤ 140737488355328)
    {ops : Array Oper} {rest : List Oper} {o : Oper} {a : Act} {Q : Exit → Act → World → Prop} (hgd : o.guard = none) (s x : Operand)
    (ho : o.op = .call { callee := .builtin .append, args := #[s, x], argTypes := #[23, 23] })
    (hs : a.eval s = v) (hx : a.eval x = .slice A m c)
    (h : ∀ v' w', w'.ownsRow base 28 32 v' (n + m) (hcl (xs ++ l)) → Below base w0 w' → w.heap.size ≤ w'.heap.size → w.grownBy w' v.ownBlock → (v'.ownBlock = v.ownBlock ∨ v'.ownBlock = some w.heap.size) → wpList Tryd.prog ops Q rest (a.put o.dst v') w') : wpList Tryd.prog ops Q (o :: rest) a w := by
  obtain ⟨i0, hi, hz⟩ := Option.map_eq_some_iff.1 info_h
  obtain ⟨i1, hi1, hz1⟩ := Option.map_eq_some_iff.1 zero_h
  obtain rfl : i1 = i0 := by rw [hi] at hi1; exact (Option.some.inj hi1).symm
  obtain ⟨z, hz2, hz3⟩ := Option.map_eq_some_iff.1 hz1
  injection hz with hz4 hz5
  refine wpList_append_rd w hgd s x 23 ho base 28 i1 z 32 32 Tryd.underlying23 hi hz2 hz4 hz5 (by rw [hz3]; simp) (by decide) v n (hcl xs) hs hown
    A m c (hcl l) hx (by rw [hcl_length h32, hl]; omega) hr (hcl_one' l) (by simp only [maxLen]; omega) hm hbase ?_
  intro v' w' h1 h2 h3
  refine h v' w' ?_ (own_app hb hown h2 hbase) h2.size h2 h3
  rw [hcl_append]
  exact h1
end Go.Proofs.YtdkknincamkhpaaDoor
/- hash.Pair. -/
namespace Go.Proofs.YtdkknincamkhpaaDoor
open Go.RowKit
attribute [local go_sem high] slB_lh slB_l slB_h nilB_eq

/-- two hashes as one -/
def pairB (a b : List UInt8) : List UInt8 := dblB (a ++ b)
theorem pairB_length (a b : List UInt8) : (pairB a b).length = 32 := dblB_length _
set_option maxRecDepth 10000 in
set_option maxHeartbeats 1000000 in
theorem Pair (a b : List UInt8) (ha : a.length = 32) (hb : b.length = 32) (w : World) (ht : Tabs w) :
    Calls Tryd.prog 30 #[.agg (hcs a), .agg (hcs b)] w fun e w' => e = .returned (.agg (hcs (pairB a b))) ∧ Below w.heap.size w w' := by
  have hz := zeros_32
  have hzl : (List.replicate 32 (0 : UInt8)).length = 32 := by simp
  obtain ⟨zs, hzs⟩ : ∃ zs : List UInt8, zs = List.replicate 32 0 := ⟨_, rfl⟩
  rw [← hzs] at hz hzl
  clear hzs
  replace hzl := Lib.hid hzl
  obtain ⟨dd, hdd⟩ : ∃ l, l = dblB (a ++ b) := ⟨_, rfl⟩
  have hdl : dd.length = 32 := by rw [hdd, dblB_length]
  rw [pairB, ← hdd]
  replace hdd := Lib.hid hdd
  replace hdl := Lib.hid hdl
  replace ha := Lib.hid ha
  replace hb := Lib.hid hb
  obtain ⟨mk, hmks, hmk⟩ := made_ex 64 64 rfl (by omega)
  replace hmks := Lib.hid hmks
  have hle1 : ([] : List UInt8).length + 32 ≤ 140737488355328 := by simp
  have hle2 : a.length + 32 ≤ 140737488355328 := by rw [ha.out]; omega
  go_enter Tryd.func30, Tryd.ntmps30
  have b0 : Below w.heap.size w (((w.alloc (.cells (a.map bv).toArray 28)).alloc (.cells (b.map bv).toArray 28)).alloc (.cells (zs.map bv).toArray 28)) := (((Below.refl _ _).alloc (Nat.le_refl _) _).alloc (by simp) _).alloc (by simp; omega) _
  have a0 : Av (((w.alloc (.cells (a.map bv).toArray 28)).alloc (.cells (b.map bv).toArray 28)).alloc (.cells (zs.map bv).toArray 28)) w.heap.size 28 (a.map bv) := Av.alloc (heap_alloc2_old _ _ _) _
  have a1 : Av (((w.alloc (.cells (a.map bv).toArray 28)).alloc (.cells (b.map bv).toArray 28)).alloc (.cells (zs.map bv).toArray 28)) (w.heap.size + 1) 28 (b.map bv) := Av.alloc (heap_alloc2_new _ _ _) _
  have a2 : Av (((w.alloc (.cells (a.map bv).toArray 28)).alloc (.cells (b.map bv).toArray 28)).alloc (.cells (zs.map bv).toArray 28)) (w.heap.size + 1 + 1) 28 (zs.map bv) := by
    have := heap_alloc_new ((w.alloc (.cells (a.map bv).toArray 28)).alloc (.cells (b.map bv).toArray 28)) (.cells (zs.map bv).toArray 28)
    have e : ∀ (v : World) (o : Obj), (v.alloc o).heap.size = v.heap.size + 1 := fun v o => by simp
    rw [e, e] at this
    exact this
  go_upto_region 1 with fail
  generalize ((w.alloc (.cells (a.map bv).toArray 28)).alloc (.cells (b.map bv).toArray 28)).alloc (.cells (zs.map bv).toArray 28) = w0 at *
  have hmade := OwnB.made w0 w0.heap.size (Nat.le_refl _) mk 64 (by simp only [maxLen]; omega) hmks.out
  have hbm := (Below.refl w0.heap.size w0).alloc (Nat.le_refl _) (.cells mk 5)
  have hr0 := a0.rd.below hbm
  go_wp2_with (first
    | (at_builtin
       refine wpList_appB hmade hbm hbm.size 32 32 hr0 ha.out hle1 rfl (.tmp 7) (.tmp 8) rfl rfl rfl ?_
       intro y1 w1 hown hb1 hz1 hg1
       rw [List.nil_append] at hown
       have hr1 := a1.rd.below hb1)
    | (at_builtin
       refine wpList_appB hown hb1 hb1.size 32 32 hr1 hb.out hle2 rfl (.tmp 10) (.tmp 11) rfl rfl rfl ?_
       intro y2 w2 hown2 hb2 hz2 hg2
       obtain ⟨A2, c2, rfl, hc2, _⟩ := hown2.formN 64 (by rw [List.length_append, ha.out, hb.out])))
  replace a2 := a2.below hb2
  replace b0 := b0.trans (hb2.mono b0.size)
  refine (Double (a ++ b) A2 64 c2 (by rw [List.length_append, ha.out, hb.out]) hc2 (by omega) w2 hown2.rd (ht.below b0)).mono ?_
  rintro e w3 ⟨rfl, b3⟩
  rw [← hdd.out]
  replace a2 := a2.below b3
  replace b3 := b0.trans (b3.mono b0.size)
  go_wp2_with (refine wpList_storeAv b3 a2 (by omega) rfl _ _ _ rfl rfl (dd.map bv) rfl 32 (by rw [List.length_map, hdl.out]) (by kernel_rfl) (by rw [List.size_toArray, List.length_map]; exact hzl.out) (by simp [Value.oneCell']) ?_
               intro w6 a6 b6 k6 z6)
  refine bodyPost_ret (results_cell_row rfl _ _ (w.heap.size + 1 + 1) _ _ (0, 0) _ rfl a6 Tryd.underlying28 rfl (by rw [List.size_toArray, List.length_map, hdl.out]; kernel_rfl)) rfl ⟨rfl, b6⟩
end Go.Proofs.YtdkknincamkhpaaDoor
/- merkle's small functions: paired, Width, Height; Clone. -/
namespace Go.Proofs.YtdkknincamkhpaaDoor
open Go.RowKit

theorem xor_one_nat (k : Nat) : k ^^^ 1 = if k % 2 = 0 then k + 1 else k - 1 := by
  have hd : (k ^^^ 1) / 2 = k / 2 := by
    have := Nat.xor_div_two (a := k) (b := 1)
    simpa using this
  have hm : (k ^^^ 1) % 2 = (k + 1) % 2 := by
    have h := Nat.testBit_xor k 1 0
    rw [Nat.testBit_zero, Nat.testBit_zero, Nat.testBit_zero] at h
    have h2 : ((k ^^^ 1) % 2 = 1) ↔ ¬ (k % 2 = 1) := by
      rw [← decide_eq_true_iff (p := (k ^^^ 1) % 2 = 1), h]
      by_cases hk : k % 2 = 1 <;> simp [hk]
    omega
  split <;> omega
theorem bits_xor_one (k : Nat) (hk : k < 2147483648) : bits .xor .i64 (k : Int) 1 = ((if k % 2 = 0 then k + 1 else k - 1 : Nat) : Int) := by
  rw [← xor_one_nat]
  have h2 : k ^^^ 1 < 2147483648 := Nat.xor_lt_two_pow (n := 31) (by omega) (by omega)
  simp only [bits, IntKind.bits]
  have e : (BitVec.ofInt 64 (k : Int) ^^^ BitVec.ofInt 64 1).toNat = k ^^^ 1 := by
    rw [BitVec.toNat_xor]
    have e1 : (BitVec.ofInt 64 (k : Int)).toNat = k := by simp; omega
    have e2 : (BitVec.ofInt 64 1).toNat = 1 := by decide
    rw [e1, e2]
  have e3 : IntKind.i64.wrap ((BitVec.ofInt 64 (k : Int) ^^^ BitVec.ofInt 64 1).toNat : Int) = ((k ^^^ 1 : Nat) : Int) := by
    rw [e, IntKind.wrap_i64]; omega
  exact e3
theorem paired_of (k n : Nat) (hk : k < 2147483648) (hn : 0 < n) (hn2 : n < 2147483648) (w : World) :
    Calls Tryd.prog 48 #[.int .i64 (k : Int), .int .i64 (n : Int)] w fun e w' => e = .returned (.int .i64 ((min (if k % 2 = 0 then k + 1 else k - 1) (n - 1) : Nat) : Int)) ∧ w' = w := by
  have hx := bits_xor_one k hk
  generalize (if k % 2 = 0 then k + 1 else k - 1) = j at hx ⊢
  have h1 : IntKind.i64.wrap ((n : Int) - 1) = ((n - 1 : Nat) : Int) := by rw [IntKind.wrap_i64]; omega
  obtain ⟨r, hr⟩ : ∃ r, r = min j (n - 1) := ⟨_, rfl⟩
  have h2 : min (j : Int) ((n - 1 : Nat) : Int) = (r : Int) := by omega
  rw [← hr]
  clear hr
  generalize n - 1 = m at h1 h2
  go_enter Tryd.func48, Tryd.ntmps48
  go_wp2
  · go_ret
    exact ⟨by rw [show r = m by omega]; rfl, rfl⟩
  · go_ret
    exact ⟨by rw [show r = j by omega]; rfl, rfl⟩

/-- how many hashes a level has -/
def mWidth (n h : Int) : Int := if h < 0 then 0 else (min (max n 0) 4096 + 2 ^ (min h 12).toNat - 1) / 2 ^ (min h 12).toNat
theorem Width (n h : Int) (w : World) : Calls Tryd.prog 43 #[.int .i64 n, .int .i64 h] w fun e w' => e = .returned (.int .i64 (mWidth n h)) ∧ w' = w := by
  by_cases hh : h < 0
  · go_enter Tryd.func43, Tryd.ntmps43
    go_wp2
    go_ret
    exact ⟨by rw [mWidth, if_pos hh]; rfl, rfl⟩
  · have h0 : 0 ≤ h := by omega
    by_cases h12 : 12 < h
    · have hm : min h 12 = 12 := by omega
      rw [mWidth, if_neg hh, hm]
      go_enter Tryd.func43, Tryd.ntmps43
      go_wp2
      all_goals
        go_ret
        refine ⟨congrArg (fun x => Ending.returned (Value.int IntKind.i64 x)) ?_, rfl⟩
        omega
    · rcases (show h = 0 ∨ h = 1 ∨ h = 2 ∨ h = 3 ∨ h = 4 ∨ h = 5 ∨ h = 6 ∨ h = 7 ∨ h = 8 ∨ h = 9 ∨ h = 10 ∨ h = 11 ∨ h = 12 by omega) with rfl | rfl | rfl | rfl | rfl | rfl | rfl | rfl | rfl | rfl | rfl | rfl | rfl
      all_goals
        rw [mWidth, if_neg (by decide)]
        first
          | rw [show (2 : Int) ^ (min (0 : Int) 12).toNat = 1 by decide]
          | rw [show (2 : Int) ^ (min (1 : Int) 12).toNat = 2 by decide]
          | rw [show (2 : Int) ^ (min (2 : Int) 12).toNat = 4 by decide]
          | rw [show (2 : Int) ^ (min (3 : Int) 12).toNat = 8 by decide]
          | rw [show (2 : Int) ^ (min (4 : Int) 12).toNat = 16 by decide]
          | rw [show (2 : Int) ^ (min (5 : Int) 12).toNat = 32 by decide]
          | rw [show (2 : Int) ^ (min (6 : Int) 12).toNat = 64 by decide]
          | rw [show (2 : Int) ^ (min (7 : Int) 12).toNat = 128 by decide]
          | rw [show (2 : Int) ^ (min (8 : Int) 12).toNat = 256 by decide]
          | rw [show (2 : Int) ^ (min (9 : Int) 12).toNat = 512 by decide]
          | rw [show (2 : Int) ^ (min (10 : Int) 12).toNat = 1024 by decide]
          | rw [show (2 : Int) ^ (min (11 : Int) 12).toNat = 2048 by decide]
          | rw [show (2 : Int) ^ (min (12 : Int) 12).toNat = 4096 by decide]
        go_enter Tryd.func43, Tryd.ntmps43
        go_wp2
        all_goals
          go_ret
          refine ⟨congrArg (fun x => Ending.returned (Value.int IntKind.i64 x)) ?_, rfl⟩
          omega
theorem Height (n : Int) (k : Nat) (h12 : k ≤ 12) (hlo : ∀ j : Nat, j < k → 1 < mWidth n j) (hhi : mWidth n k ≤ 1) (w : World) : Calls Tryd.prog 24 #[.int .i64 n] w fun e w' => e = .returned (.int .i64 (k : Int)) ∧ w' = w := by
  have HW := Lib.hid (fun (h : Int) w => Width n h w)
  go_enter Tryd.func24, Tryd.ntmps24
  go_wp2
  go_loopw [3] (fun i wr => ∃ j : Nat, j ≤ k ∧ i = .int .i64 (j : Int) ∧ wr = w) (fun i _ => k - (intOf i).toNat)
  case atStart => exact ⟨0, by omega, rfl, rfl⟩
  case round =>
    obtain ⟨j, hj, rfl, rfl⟩ := hrel
    by_cases hjk : j < k
    · have h1 := hlo j hjk
      have h2 : decide (1 < mWidth n j) = true := by simpa using h1
      go_wp2_with (go_at_call 43; refine (HW.out _ _).mono ?_; rintro e w' ⟨rfl, rfl⟩)
      refine ⟨⟨j + 1, by omega, by go_num, trivial⟩, ?_⟩
      simp [intOf]; omega
    · obtain rfl : j = k := by omega
      have h2 : decide (1 < mWidth n j) = false := by simp; omega
      go_wp2_with (go_at_call 43; refine (HW.out _ _).mono ?_; rintro e w' ⟨rfl, rfl⟩)
      go_ret
      exact ⟨rfl, rfl⟩

theorem nilH_eq (w : World) (A : Option Addr) (n c n' c' : Nat) : (binOp .eql 23 (.slice A n c) (.slice none n' c')).run Tryd.prog w = .ok (.bool A.isNone) w :=
  Lib.run_eql_slice_nil w _ _ A n c n' c' Tryd.underlying23
attribute [local go_sem high] nilH_eq
set_option maxHeartbeats 400000 in
theorem CloneH (l : List (List UInt8)) (h32 : All32 l) (A : Option Addr) (n c : Nat) (w : World) (hr : Rd w A (hcl l)) (hn : l.length = n) (hm : n ≤ 100000) :
    Calls Tryd.prog 63 #[.slice A n c] w fun e w' => ∃ v, e = .returned v ∧ w'.ownsRow w.heap.size 28 32 v n (hcl l) ∧ Below w.heap.size w w' := by
  cases A with
  | none =>
    have hb : l = [] := by
      rcases hr with h | ⟨_, _, h, _⟩
      · cases l with
        | nil => rfl
        | cons x l => exact absurd h (hcl_ne h32 (by simp))
      · cases h
    subst hb
    subst hn
    clear hm hr
    have hnn : (none : Option Addr).isNone = true := rfl
    go_enter Tryd.func63, Tryd.ntmps63
    go_wp2
    go_ret
    exact ⟨_, rfl, World.ownsRow_nil _ _ _ _, Below.refl _ _⟩
  | some a =>
    have hmade : (w.alloc (.cells #[] 28)).ownsRow w.heap.size 28 32 (.slice (some ⟨w.heap.size, 0, none⟩) 0 0) 0 (hcl []) := World.ownsRow_made w #[] 0 (Nat.le_refl _) (by simp [maxLen]) rfl
    have hb1 := (Below.refl w.heap.size w).alloc (Nat.le_refl _) (.cells #[] 28)
    have hr1 := hr.below hb1
    have hnn : (some a : Option Addr).isNone = false := rfl
    have Hn := Lib.hid hn
    clear hn
    go_enter Tryd.func63, Tryd.ntmps63
    go_wp2_with (at_builtin; refine wpList_appH hmade hb1 (by simp) h32 n c hr1 Hn.out (by omega) rfl (.tmp 5) (.tmp 6) rfl rfl rfl ?_; intro v1 w1 hown1 hb2 hz2 _ _)
    go_ret
    rw [List.nil_append, Nat.zero_add] at hown1
    exact ⟨_, rfl, hown1, hb2⟩
end Go.Proofs.YtdkknincamkhpaaDoor
