/- Hash; Mk; Up: put together for the claim. -/
import Derived.Test.YtmdllemgjhkphaaDoorPr8
import Derived.Test.YtmdllemgjhkphaaDoorBld
import Derived.Great.BuildSlice
/- Hashes in memory: slices of hashes. -/
namespace Go.Proofs.YtmdllemgjhkphaaDoor
open Go.RowKit

/-- the cells of hashes -/
def hcl (l : List (List UInt8)) : List Value := l.flatMap fun x => x.map bv
def All32 (l : List (List UInt8)) : Prop := ∀ x ∈ l, x.length = 32
theorem hcl_nil : hcl [] = [] := rfl
theorem hcl_cons (x : List UInt8) (l : List (List UInt8)) : hcl (x :: l) = x.map bv ++ hcl l := rfl
theorem hcl_append (l k : List (List UInt8)) : hcl (l ++ k) = hcl l ++ hcl k := by simp [hcl]
theorem hcl_one (x : List UInt8) : hcl [x] = x.map bv := by simp [hcl]
theorem All32.tail {x : List UInt8} {l : List (List UInt8)} (h : All32 (x :: l)) : All32 l := fun y hy => h y (List.mem_cons_of_mem _ hy)
theorem All32.get {l : List (List UInt8)} (h : All32 l) (i : Nat) (hi : i < l.length) : (l.getD i []).length = 32 := by
  rw [List.getD_eq_getElem?_getD, List.getElem?_eq_getElem hi]
  exact h _ (List.getElem_mem hi)
theorem All32.append {l k : List (List UInt8)} (h : All32 l) (h' : All32 k) : All32 (l ++ k) := fun x hx => (List.mem_append.1 hx).elim (h x) (h' x)
theorem All32.one {x : List UInt8} (h : x.length = 32) : All32 [x] := fun y hy => by rw [List.mem_singleton.1 hy]; exact h
theorem hcl_length {l : List (List UInt8)} (h : All32 l) : (hcl l).length = 32 * l.length := by
  induction l with
  | nil => rfl
  | cons x l ih => rw [hcl_cons, List.length_append, List.length_map, ih h.tail, h x (List.mem_cons_self ..), List.length_cons]; omega
theorem hcl_get {l : List (List UInt8)} (h : All32 l) (i j : Nat) (hi : i < l.length) (hj : j < 32) : (hcl l)[32 * i + j]? = ((l.getD i []).map bv)[j]? := by
  induction l generalizing i with
  | nil => simp at hi
  | cons x l ih =>
    have hx := h x (List.mem_cons_self ..)
    cases i with
    | zero => rw [hcl_cons, Nat.mul_zero, Nat.zero_add, List.getElem?_append_left (by rw [List.length_map, hx]; exact hj)]; rfl
    | succ i =>
      rw [hcl_cons, List.getElem?_append_right (by rw [List.length_map, hx]; omega), List.length_map, hx, show 32 * (i + 1) + j - 32 = 32 * i + j by omega, ih h.tail i (by simpa using hi)]
      rfl
theorem hcl_one' (l : List (List UInt8)) : ∀ u ∈ hcl l, u.oneCell' = true := by
  intro u hu
  simp only [hcl, List.mem_flatMap, List.mem_map] at hu
  obtain ⟨_, _, b, _, rfl⟩ := hu
  rfl
/-- one hash of many -/
theorem Rd.hash {w : World} {b off : Nat} {l : List (List UInt8)} (h : Rd w (some ⟨b, off, none⟩) (hcl l)) (h32 : All32 l) (i : Nat) (hi : i < l.length) : w.rangeAt b (off + i * 32) ((l.getD i []).map bv) := by
  intro j v hv
  have hj : j < 32 := by
    have := (List.getElem?_eq_some_iff.1 hv).1
    rw [List.length_map, h32.get i hi] at this
    exact this
  rw [← hcl_get h32 i j hi hj] at hv
  rcases h with h | ⟨b', off', hA, hc⟩
  · rw [h] at hv; simp at hv
  · cases hA
    rw [show off + i * 32 + j = off + (32 * i + j) by omega]
    exact hc _ _ hv
theorem hcl_ne {l : List (List UInt8)} (h : All32 l) (hl : 0 < l.length) : hcl l ≠ [] := fun e => by
  have := hcl_length h
  rw [e] at this
  simp at this
  omega

theorem info_h : (Tryd.prog.info? 28).map (fun i => (i.size, i.bytes)) = some (32, 32) := by kernel_rfl
theorem zero_h : (Tryd.prog.info? 28).map (fun i => (i.zero.map (·.cells))) = some (some (Array.replicate 32 (.int .u8 0))) := by kernel_rfl

/-- 'append(s, x..)' of hashes -/
theorem wpList_appH {w0 w : World} {base : Nat} {v : Value} {n : Nat} {xs : List (List UInt8)} (hown : w.ownsRow base 28 32 v n (hcl xs)) (hb : Below base w0 w) (hbase : base ≤ w.heap.size)
    {A : Option Addr} {l : List (List UInt8)} (h32 : All32 l) (m c : Nat) (hr : Rd w A (hcl l)) (hl : l.length = m) (hm : (n + m) * 32 ≤ 140737488355328)
    {ops : Array Oper} {rest : List Oper} {o : Oper} {a : Act} {Q : Exit → Act → World → Prop} (hgd : o.guard = none) (s x : Operand)
    (ho : o.op = .call { callee := .builtin .append, args := #[s, x], argTypes := #[23, 23] })
    (hs : a.eval s = v) (hx : a.eval x = .slice A m c)
    (h : ∀ v' w', w'.ownsRow base 28 32 v' (n + m) (hcl (xs ++ l)) → Below base w0 w' → w.heap.size ≤ w'.heap.size → w.grownBy w' v.ownBlock → (v'.ownBlock = v.ownBlock ∨ v'.ownBlock = some w.heap.size) → wpList Tryd.prog ops Q rest (a.put o.dst v') w') : wpList Tryd.prog ops Q (o :: rest) a w := by
  obtain ⟨i0, hi, hz⟩ := Option.map_eq_some_iff.1 info_h
  obtain ⟨i1, hi1, hz1⟩ := Option.map_eq_some_iff.1 zero_h
  obtain rfl : i1 = i0 := by rw [hi] at hi1; exact (Option.some.inj hi1).symm
  obtain ⟨z, hz2, hz3⟩ := Option.map_eq_some_iff.1 hz1
  injection hz with hz4 hz5
  refine wpList_append_rd w hgd s x 23 ho base 28 i1 z 32 32 Tryd.underlying23 hi hz2 hz4 hz5 (by rw [hz3]; simp) (by decide) v n (hcl xs) hs hown
    A m c (hcl l) hx (by rw [hcl_length h32, hl]; omega) hr (hcl_one' l) (by simp only [maxLen]; omega) hm hbase ?_
  intro v' w' h1 h2 h3
  refine h v' w' ?_ (own_app hb hown h2 hbase) h2.size h2 h3
  rw [hcl_append]
  exact h1
end Go.Proofs.YtmdllemgjhkphaaDoor
/- merkle's small functions: paired, Width, Height; Clone. -/
namespace Go.Proofs.YtmdllemgjhkphaaDoor
open Go.RowKit

theorem xor_one_nat (k : Nat) : k ^^^ 1 = if k % 2 = 0 then k + 1 else k - 1 := by
  have hd : (k ^^^ 1) / 2 = k / 2 := by
    have := Nat.xor_div_two (a := k) (b := 1)
    simpa using this
  have hm : (k ^^^ 1) % 2 = (k + 1) % 2 := by
    have h := Nat.testBit_xor k 1 0
    rw [Nat.testBit_zero, Nat.testBit_zero, Nat.testBit_zero] at h
    have h2 : ((k ^^^ 1) % 2 = 1) ↔ ¬ (k % 2 = 1) := by
      rw [← decide_eq_true_iff (p := (k ^^^ 1) % 2 = 1), h]
      by_cases hk : k % 2 = 1 <;> simp [hk]
    omega
  split <;> omega
theorem bits_xor_one (k : Nat) (hk : k < 2147483648) : bits .xor .i64 (k : Int) 1 = ((if k % 2 = 0 then k + 1 else k - 1 : Nat) : Int) := by
  rw [← xor_one_nat]
  have h2 : k ^^^ 1 < 2147483648 := Nat.xor_lt_two_pow (n := 31) (by omega) (by omega)
  simp only [bits, IntKind.bits]
  have e : (BitVec.ofInt 64 (k : Int) ^^^ BitVec.ofInt 64 1).toNat = k ^^^ 1 := by
    rw [BitVec.toNat_xor]
    have e1 : (BitVec.ofInt 64 (k : Int)).toNat = k := by simp; omega
    have e2 : (BitVec.ofInt 64 1).toNat = 1 := by decide
    rw [e1, e2]
  have e3 : IntKind.i64.wrap ((BitVec.ofInt 64 (k : Int) ^^^ BitVec.ofInt 64 1).toNat : Int) = ((k ^^^ 1 : Nat) : Int) := by
    rw [e, IntKind.wrap_i64]; omega
  exact e3
theorem paired_of (k n : Nat) (hk : k < 2147483648) (hn : 0 < n) (hn2 : n < 2147483648) (w : World) :
    Calls Tryd.prog 53 #[.int .i64 (k : Int), .int .i64 (n : Int)] w fun e w' => e = .returned (.int .i64 ((min (if k % 2 = 0 then k + 1 else k - 1) (n - 1) : Nat) : Int)) ∧ w' = w := by
  have hx := bits_xor_one k hk
  generalize (if k % 2 = 0 then k + 1 else k - 1) = j at hx ⊢
  have h1 : IntKind.i64.wrap ((n : Int) - 1) = ((n - 1 : Nat) : Int) := by rw [IntKind.wrap_i64]; omega
  obtain ⟨r, hr⟩ : ∃ r, r = min j (n - 1) := ⟨_, rfl⟩
  have h2 : min (j : Int) ((n - 1 : Nat) : Int) = (r : Int) := by omega
  rw [← hr]
  clear hr
  generalize n - 1 = m at h1 h2
  go_enter Tryd.func53, Tryd.ntmps53
  go_wp2
  · go_ret
    exact ⟨by rw [show r = m by omega]; rfl, rfl⟩
  · go_ret
    exact ⟨by rw [show r = j by omega]; rfl, rfl⟩

/-- how many hashes a level has -/
def mWidth (n h : Int) : Int := if h < 0 then 0 else (min (max n 0) 4096 + 2 ^ (min h 12).toNat - 1) / 2 ^ (min h 12).toNat
theorem Width (n h : Int) (w : World) : Calls Tryd.prog 51 #[.int .i64 n, .int .i64 h] w fun e w' => e = .returned (.int .i64 (mWidth n h)) ∧ w' = w := by
  by_cases hh : h < 0
  · go_enter Tryd.func51, Tryd.ntmps51
    go_wp2
    go_ret
    exact ⟨by rw [mWidth, if_pos hh]; rfl, rfl⟩
  · have h0 : 0 ≤ h := by omega
    by_cases h12 : 12 < h
    · have hm : min h 12 = 12 := by omega
      rw [mWidth, if_neg hh, hm]
      go_enter Tryd.func51, Tryd.ntmps51
      go_wp2
      all_goals
        go_ret
        refine ⟨congrArg (fun x => Ending.returned (Value.int IntKind.i64 x)) ?_, rfl⟩
        omega
    · rcases (show h = 0 ∨ h = 1 ∨ h = 2 ∨ h = 3 ∨ h = 4 ∨ h = 5 ∨ h = 6 ∨ h = 7 ∨ h = 8 ∨ h = 9 ∨ h = 10 ∨ h = 11 ∨ h = 12 by omega) with rfl | rfl | rfl | rfl | rfl | rfl | rfl | rfl | rfl | rfl | rfl | rfl | rfl
      all_goals
        rw [mWidth, if_neg (by decide)]
        first
          | rw [show (2 : Int) ^ (min (0 : Int) 12).toNat = 1 by decide]
          | rw [show (2 : Int) ^ (min (1 : Int) 12).toNat = 2 by decide]
          | rw [show (2 : Int) ^ (min (2 : Int) 12).toNat = 4 by decide]
          | rw [show (2 : Int) ^ (min (3 : Int) 12).toNat = 8 by decide]
          | rw [show (2 : Int) ^ (min (4 : Int) 12).toNat = 16 by decide]
          | rw [show (2 : Int) ^ (min (5 : Int) 12).toNat = 32 by decide]
          | rw [show (2 : Int) ^ (min (6 : Int) 12).toNat = 64 by decide]
          | rw [show (2 : Int) ^ (min (7 : Int) 12).toNat = 128 by decide]
          | rw [show (2 : Int) ^ (min (8 : Int) 12).toNat = 256 by decide]
          | rw [show (2 : Int) ^ (min (9 : Int) 12).toNat = 512 by decide]
          | rw [show (2 : Int) ^ (min (10 : Int) 12).toNat = 1024 by decide]
          | rw [show (2 : Int) ^ (min (11 : Int) 12).toNat = 2048 by decide]
          | rw [show (2 : Int) ^ (min (12 : Int) 12).toNat = 4096 by decide]
        go_enter Tryd.func51, Tryd.ntmps51
        go_wp2
        all_goals
          go_ret
          refine ⟨congrArg (fun x => Ending.returned (Value.int IntKind.i64 x)) ?_, rfl⟩
          omega
theorem Height (n : Int) (k : Nat) (h12 : k ≤ 12) (hlo : ∀ j : Nat, j < k → 1 < mWidth n j) (hhi : mWidth n k ≤ 1) (w : World) : Calls Tryd.prog 37 #[.int .i64 n] w fun e w' => e = .returned (.int .i64 (k : Int)) ∧ w' = w := by
  have HW := Lib.hid (fun (h : Int) w => Width n h w)
  go_enter Tryd.func37, Tryd.ntmps37
  go_wp2
  go_loopw [3] (fun i wr => ∃ j : Nat, j ≤ k ∧ i = .int .i64 (j : Int) ∧ wr = w) (fun i _ => k - (intOf i).toNat)
  case atStart => exact ⟨0, by omega, rfl, rfl⟩
  case round =>
    obtain ⟨j, hj, rfl, rfl⟩ := hrel
    by_cases hjk : j < k
    · have h1 := hlo j hjk
      have h2 : decide (1 < mWidth n j) = true := by simpa using h1
      go_wp2_with (go_at_call 51; refine (HW.out _ _).mono ?_; rintro e w' ⟨rfl, rfl⟩)
      refine ⟨⟨j + 1, by omega, by go_num, trivial⟩, ?_⟩
      simp [intOf]; omega
    · obtain rfl : j = k := by omega
      have h2 : decide (1 < mWidth n j) = false := by simp; omega
      go_wp2_with (go_at_call 51; refine (HW.out _ _).mono ?_; rintro e w' ⟨rfl, rfl⟩)
      go_ret
      exact ⟨rfl, rfl⟩

theorem nilH_eq (w : World) (A : Option Addr) (n c n' c' : Nat) : (binOp .eql 23 (.slice A n c) (.slice none n' c')).run Tryd.prog w = .ok (.bool A.isNone) w :=
  Lib.run_eql_slice_nil w _ _ A n c n' c' Tryd.underlying23
attribute [local go_sem high] nilH_eq
set_option maxHeartbeats 400000 in
theorem CloneH (l : List (List UInt8)) (h32 : All32 l) (A : Option Addr) (n c : Nat) (w : World) (hr : Rd w A (hcl l)) (hn : l.length = n) (hm : n ≤ 100000) :
    Calls Tryd.prog 44 #[.slice A n c] w fun e w' => ∃ v, e = .returned v ∧ w'.ownsRow w.heap.size 28 32 v n (hcl l) ∧ Below w.heap.size w w' := by
  cases A with
  | none =>
    have hb : l = [] := by
      rcases hr with h | ⟨_, _, h, _⟩
      · cases l with
        | nil => rfl
        | cons x l => exact absurd h (hcl_ne h32 (by simp))
      · cases h
    subst hb
    subst hn
    clear hm hr
    have hnn : (none : Option Addr).isNone = true := rfl
    go_enter Tryd.func44, Tryd.ntmps44
    go_wp2
    go_ret
    exact ⟨_, rfl, World.ownsRow_nil _ _ _ _, Below.refl _ _⟩
  | some a =>
    have hmade : (w.alloc (.cells #[] 28)).ownsRow w.heap.size 28 32 (.slice (some ⟨w.heap.size, 0, none⟩) 0 0) 0 (hcl []) := World.ownsRow_made w #[] 0 (Nat.le_refl _) (by simp [maxLen]) rfl
    have hb1 := (Below.refl w.heap.size w).alloc (Nat.le_refl _) (.cells #[] 28)
    have hr1 := hr.below hb1
    have hnn : (some a : Option Addr).isNone = false := rfl
    have Hn := Lib.hid hn
    clear hn
    go_enter Tryd.func44, Tryd.ntmps44
    go_wp2_with (at_builtin; refine wpList_appH hmade hb1 (by simp) h32 n c hr1 Hn.out (by omega) rfl (.tmp 5) (.tmp 6) rfl rfl rfl ?_; intro v1 w1 hown1 hb2 hz2 _ _)
    go_ret
    rw [List.nil_append, Nat.zero_add] at hown1
    exact ⟨_, rfl, hown1, hb2⟩
end Go.Proofs.YtmdllemgjhkphaaDoor
/- merkle.above: the level above one. -/
namespace Go.Proofs.YtmdllemgjhkphaaDoor
open Go.RowKit

set_option maxRecDepth 10000 in
/-- a literal of hashes -/
theorem run_buildH (w : World) (l : List (List UInt8)) (h32 : All32 l) (n : Nat) (hn : l.length = n) (hp : 0 < n) (hs : n ≤ 1000) (parts : Array (Nat × Value)) (hparts : parts.toList = ((l.map fun x => Value.agg (hcs x)).zipIdx 0).map fun x => (x.2, x.1)) :
    (Instr.buildSlice 23 n parts).run Tryd.prog w = .ok (.slice (some ⟨w.heap.size, 0, none⟩) n n) (w.alloc (.cells (hcl l).toArray 28)) := by
  obtain ⟨i0, hi, hz⟩ := Option.map_eq_some_iff.1 info_h
  obtain ⟨i1, hi1, hz1⟩ := Option.map_eq_some_iff.1 zero_h
  obtain rfl : i1 = i0 := by rw [hi] at hi1; exact (Option.some.inj hi1).symm
  obtain ⟨z, hz2, hz3⟩ := Option.map_eq_some_iff.1 hz1
  injection hz with hz4 hz5
  refine run_buildSlice w _ _ n parts _ i1 z Tryd.underlying23 hi hz2 (by rw [hz4]; omega) (by rw [hz4]; omega) ?_
  rw [hparts, hz4]
  have := Great.fill_whole (s := 32) (by omega) (l.map fun x => Value.agg (hcs x)) ((Array.range (n * 32)).map (z.cells[· % z.cells.size]!)) (fun v hv => by
    obtain ⟨x, hx, rfl⟩ := List.mem_map.1 hv
    simp [Value.cells, h32 x hx]) (by simp [hn])
  rw [this]
  congr 2
  rw [List.flatMap_map, hcl]
  simp [Value.cells]
theorem exec_buildH {o : Oper} {ρ : Operand → Value} {w : World} (x : List UInt8) (hx : x.length = 32) (y : Operand) (ho : o.op = .buildSlice 23 1 #[(0, y)]) (hy : ρ y = .agg (hcs x)) :
    (execOp ρ o).run Tryd.prog w = .ok (.value (.slice (some ⟨w.heap.size, 0, none⟩) 1 1)) (w.alloc (.cells (x.map bv).toArray 28)) := by
  have := run_buildH w [x] (All32.one hx) 1 rfl (by omega) (by omega) #[(0, .agg (hcs x))] rfl
  rw [hcl_one] at this
  unfold execOp
  simp only [ho, Sem.run_bind, List.map_toArray, List.map_cons, List.map_nil, hy, this, Result.andThen_ok]
  rfl

/-- the level that stands on a level -/
def mUp : List (List UInt8) → List (List UInt8)
  | [] => []
  | [x] => [pairB x x]
  | x :: y :: r => pairB x y :: mUp r
theorem mUp_length : ∀ l : List (List UInt8), (mUp l).length = (l.length + 1) / 2
  | [] => by rw [mUp]; rfl
  | [_] => by rw [mUp]; simp
  | _ :: _ :: r => by rw [mUp, List.length_cons, mUp_length r, List.length_cons, List.length_cons]; omega
theorem mUp_32 : ∀ l : List (List UInt8), All32 (mUp l)
  | [] => fun _ h => by cases h
  | [x] => by rw [mUp]; exact All32.one (pairB_length x x)
  | x :: y :: r => fun z hz => by
    rw [mUp] at hz
    rcases List.mem_cons.1 hz with hz | hz
    · rw [hz]; exact pairB_length x y
    · exact mUp_32 r z hz
theorem mUp_get : ∀ (l : List (List UInt8)) (k : Nat), 2 * k < l.length → (mUp l)[k]? = some (pairB (l.getD (2 * k) []) (l.getD (min (2 * k + 1) (l.length - 1)) []))
  | [], k, h => by simp at h
  | [x], k, h => by
    obtain rfl : k = 0 := by simp at h; omega
    rw [mUp]; simp
  | x :: y :: r, 0, h => by
    simp [mUp]
  | x :: y :: r, k + 1, h => by
    rw [mUp, List.getElem?_cons_succ, mUp_get r k (by simp at h; omega)]
    simp only [List.length_cons] at h ⊢
    rw [show 2 * (k + 1) = 2 * k + 1 + 1 by omega, show min (2 * k + 1 + 1 + 1) (r.length + 1 + 1 - 1) = min (2 * k + 1) (r.length - 1) + 1 + 1 by omega]
    rfl

set_option maxRecDepth 10000 in
set_option maxHeartbeats 2000000 in
theorem above (l : List (List UInt8)) (h32 : All32 l) (A : Option Addr) (n c : Nat) (w : World) (hr : Rd w A (hcl l)) (hn : l.length = n) (hm : n ≤ 4096) (ht : Tabs w) :
    Calls Tryd.prog 45 #[.slice A n c] w fun e w' => ∃ v, e = .returned v ∧ w'.ownsRow w.heap.size 28 32 v ((n + 1) / 2) (hcl (mUp l)) ∧ Below w.heap.size w w' := by
  replace hn := Lib.hid hn
  go_enter Tryd.func45, Tryd.ntmps45
  go_wp2
  go_loopw [3, 4] (fun v i wr => ∃ k : Nat, 2 * k ≤ n + 1 ∧ i = .int .i64 ((2 * k : Nat) : Int) ∧ wr.ownsRow w.heap.size 28 32 v k (hcl ((mUp l).take k)) ∧ Below w.heap.size w wr) (fun _ i _ => n + 1 - (intOf i).toNat)
  case atStart => exact ⟨0, by omega, rfl, World.ownsRow_nil _ _ _ _, Below.refl _ _⟩
  case round =>
    obtain ⟨k, hk, rfl, hown, hb⟩ := hrel
    by_cases hlt : 2 * k < n
    · have t1 : decide (((2 * k : Nat) : Int) < (n : Int)) = true := by simp; omega
      obtain ⟨b, off, rfl⟩ := hr.someA (hcl_ne h32 (by rw [hn.out]; omega))
      obtain ⟨x, hx⟩ : ∃ x, x = l.getD (2 * k) [] := ⟨_, rfl⟩
      obtain ⟨j, hj⟩ : ∃ j, j = min (2 * k + 1) (n - 1) := ⟨_, rfl⟩
      have hjn : j < n := by omega
      obtain ⟨y, hy⟩ : ∃ y, y = l.getD j [] := ⟨_, rfl⟩
      have hx32 : x.length = 32 := by rw [hx]; exact h32.get _ (by rw [hn.out]; omega)
      have hy32 : y.length = 32 := by rw [hy]; exact h32.get _ (by rw [hn.out]; omega)
      have hrx := Lib.hid (fun w' (hE : Below w.heap.size w w') => hx ▸ (hr.below hE).hash h32 (2 * k) (by rw [hn.out]; omega))
      have hry := Lib.hid (fun w' (hE : Below w.heap.size w w') => hy ▸ (hr.below hE).hash h32 j (by rw [hn.out]; omega))
      have hg : (mUp l)[k]? = some (pairB x y) := by
        rw [mUp_get l k (by rw [hn.out]; exact hlt), hn.out, ← hj, ← hx, ← hy]
      have HP := Lib.hid (paired_of (2 * k) n (by omega) (by omega) (by omega))
      rw [if_pos (by omega), ← hj] at HP
      have HQ := Lib.hid (fun w (ht : Tabs w) => Pair x y hx32 hy32 w ht)
      replace hj := Lib.hid hj
      replace hx := Lib.hid hx
      replace hy := Lib.hid hy
      replace hg := Lib.hid hg
      go_wp2_with fail
      have H1 : ∀ w', Ext wr.drew w' → Below w.heap.size w w' := fun w' hE => hb.trans (hE.drew.mono hb.size)
      refine wp_region_relT 14 [(13, OneW ((pairB x y).map bv))] Ext (by kernel_rfl) (by kernel_rfl) (by kernel_rfl) (by kernel_rfl) (by kernel_rfl) Ext.refl Ext.trans (by intro p hp v w w' hR; simp only [List.mem_singleton] at hp; subst hp; exact OneW.mono hR) ?_
      refine relMove Ext.refl rfl rfl rfl rfl _ (.inl rfl) (by conv => lhs; whnf) (by simp only [List.set_cons_succ, List.set_cons_zero]; rfl) ?_
      refine relMove Ext.refl rfl rfl rfl rfl _ (.inl rfl) (by conv => lhs; whnf) (by simp only [List.set_cons_succ, List.set_cons_zero]; rfl) ?_
      refine relMove Ext.refl rfl rfl rfl rfl _ (.inl rfl) (by conv => lhs; whnf) (by simp only [List.set_cons_succ, List.set_cons_zero]; rfl) ?_
      refine relPure Ext.refl rfl rfl rfl rfl (fun w _ => by go_simp; first | done | rfl) (by simp only [List.set_cons_succ, List.set_cons_zero]; rfl) ?_
      refine relPure Ext.refl rfl rfl rfl rfl (c := .agg (hcs x)) (fun w hw => exec_load_mid _ _ rfl b (off + 2 * k * 32) rfl (x.map bv) _ (hrx.out w (H1 w hw)) Tryd.underlying28 rfl (by rw [List.length_map, hx32]; kernel_rfl)) (by simp only [List.set_cons_succ, List.set_cons_zero]; rfl) ?_
      refine relMove Ext.refl rfl rfl rfl rfl _ (.inl rfl) (by conv => lhs; whnf) (by simp only [List.set_cons_succ, List.set_cons_zero]; rfl) ?_
      refine relMove Ext.refl rfl rfl rfl rfl _ (.inl rfl) (by conv => lhs; whnf) (by simp only [List.set_cons_succ, List.set_cons_zero]; rfl) ?_
      refine relMove Ext.refl rfl rfl rfl rfl _ (.inl rfl) (by conv => lhs; whnf) (by simp only [List.set_cons_succ, List.set_cons_zero]; rfl) ?_
      refine relPure Ext.refl rfl rfl rfl rfl (fun w _ => by go_simp; first | done | rfl) (by simp only [List.set_cons_succ, List.set_cons_zero]; rfl) ?_
      refine relCall1 rfl rfl rfl rfl (c := .int .i64 (j : Int)) 53 #[.int .i64 ((2 * k : Nat) : Int), .int .i64 (n : Int)] (fun w => by go_simp) (fun w hw => (HP.out w).mono ?_) (by simp only [List.set_cons_succ, List.set_cons_zero]; rfl) ?_
      · rintro e w' ⟨rfl, rfl⟩
        exact ⟨rfl, Ext.refl _⟩
      refine relPure Ext.refl rfl rfl rfl rfl (fun w _ => by go_simp; first | done | rfl) (by simp only [List.set_cons_succ, List.set_cons_zero]; rfl) ?_
      refine relPure Ext.refl rfl rfl rfl rfl (c := .agg (hcs y)) (fun w hw => exec_load_mid _ _ rfl b (off + j * 32) rfl (y.map bv) _ (hry.out w (H1 w hw)) Tryd.underlying28 rfl (by rw [List.length_map, hy32]; kernel_rfl)) (by simp only [List.set_cons_succ, List.set_cons_zero]; rfl) ?_
      refine relCall1 rfl rfl rfl rfl (c := .agg (hcs (pairB x y))) 41 #[.agg (hcs x), .agg (hcs y)] (fun w => by go_simp) (fun w hw => (HQ.out w (ht.below (H1 w hw))).mono ?_) (by simp only [List.set_cons_succ, List.set_cons_zero]; rfl) ?_
      · rintro e w' ⟨rfl, hb⟩
        exact ⟨rfl, hb⟩
      refine relWord _ rfl (fun w hw => fill_none rfl (relOp_yes rfl ?_)) ?_
      · rw [exec_buildH (pairB x y) (pairB_length x y) _ rfl (by rw [eval_evL]; rfl)]
        exact ⟨(Below.refl _ _).alloc (Nat.le_refl _) _, _, rfl, Av.rd (t := 28) (heap_alloc_new _ _)⟩
      refine relEnd fun w2 hw2 => fill_take rfl rfl fun v hv => fill_end ?_
      simp only [List.set_cons_succ, List.set_cons_zero, List.drop_succ_cons, List.drop_zero]
      obtain ⟨B, rfl, hrb⟩ := hv
      have hb2 := H1 w2 hw2
      rw [← hcl_one] at hrb
      replace hown := own_below hown hw2.drew.below
      go_wp2_with (at_builtin; refine wpList_appH hown hb2 hb2.size (All32.one (pairB_length x y)) 1 1 hrb rfl (by omega) rfl (.tmp 11) (.tmp 24) rfl rfl rfl ?_; intro v3 w3 hown3 hb3 hz3 _ _)
      refine ⟨⟨k + 1, by omega, by rw [show ((2 * (k + 1) : Nat) : Int) = 2 * (k : Int) + 2 by omega], ?_, hb3⟩, ?_⟩
      · rw [List.take_add_one, hg.out]; exact hown3
      · simp only [intOf]; omega
    · have t1 : decide (((2 * k : Nat) : Int) < (n : Int)) = false := by simp; omega
      go_wp2
      go_ret
      refine ⟨_, rfl, ?_, hb⟩
      rw [List.take_of_length_le (by rw [mUp_length, hn.out]; omega)] at hown
      rw [show (n + 1) / 2 = k by omega]
      exact hown
end Go.Proofs.YtmdllemgjhkphaaDoor
