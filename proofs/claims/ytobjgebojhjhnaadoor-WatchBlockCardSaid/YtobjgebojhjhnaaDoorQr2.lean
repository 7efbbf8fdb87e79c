import Derived.Test.YtobjgebojhjhnaaDoorQr1
import Derived.Stop.BytesEq
import Derived.Test.YtobjgebojhjhnaaDoorBits
import Derived.Test.YtobjgebojhjhnaaDoorChecked
import Derived.Test.YtobjgebojhjhnaaDoorCMath
import Derived.WalkKit
import Derived.WalkSpells
import Derived.WalkLawsBesides
import Derived.Lib.Hide
namespace Go.Proofs.YtobjgebojhjhnaaDoor
open Go.RowKit
section
variable {ops : Array Oper} {Q : Exit → Act → World → Prop} {w0 : World} {L : List (Nat × VP)} {i : Nat} {o : Oper} {rest : List Oper} {l l' : List Value} {d : List Deferred}
def SlW (bs : List UInt8) : VP := fun v w => ∃ A c, v = .slice A bs.length c ∧ Rd w A (bs.map bv)
theorem SlW.mono {bs : List UInt8} {v : Value} {w w' : World} (h : Ext w w') : SlW bs v w → SlW bs v w' := by
 rintro ⟨A, c, rfl, hr⟩
 exact ⟨A, c, rfl, hr.below h⟩
theorem SlW.own {bs : List UInt8} {v : Value} {w : World} {base : Nat} (h : OwnB w base v bs) : SlW bs v w := by
 obtain ⟨A, c, rfl, _, _⟩ := h.form
 exact ⟨A, c, rfl, h.rd⟩
end
end Go.Proofs.YtobjgebojhjhnaaDoor
namespace Go.Proofs.YtobjgebojhjhnaaDoor
open Go.RowKit
theorem all_range_eqI : ∀ (xs ys : List Int), xs.length = ys.length → (List.range xs.length).all (fun i => xs.getD i 0 == ys.getD i 0) = (xs == ys)
 | [], [], _ => rfl
 | x :: xs, y :: ys, h => by
  rw [List.length_cons, List.range_succ_eq_map, List.all_cons, List.all_map]
  have ih := all_range_eqI xs ys (by simpa using h)
  rw [List.cons_beq_cons, ← ih]
  rfl
 | [], _ :: _, h => by simp at h
 | _ :: _, [], h => by simp at h
theorem run_equalIn_ints {P : Program} (w : World) (d : Nat) (t e : TypeId) (n : Nat) (k : IntKind) (ht : P.underlying t = some (.array n e)) (he : P.underlying e = some (.int k)) (hsz : ∀ w, (sizeOf e).run P w = .ok 1 w)
  (xs ys : List Int) (hx : xs.length = n) (hy : ys.length = n) :
  (Op.equalIn (d + 2) t (.agg (xs.map (Value.int k)).toArray) (.agg (ys.map (Value.int k)).toArray)).run P w = .ok (xs == ys) w := by
 rw [← all_range_eqI xs ys (hx.trans hy.symm), hx, List.range_eq_range', Op.equalIn]
 simp only [Sem.run_bind, run_underlying ht, Result.andThen_ok, hsz, Std.Legacy.Range.forIn_eq_forIn_range', Std.Legacy.Range.size, Nat.sub_zero, Nat.add_sub_cancel, Nat.div_one]
 have hl : ∀ i ∈ List.range' 0 n 1, i < n := fun i hi => by simpa using (List.mem_range'_1.1 hi).2
 generalize List.range' 0 n 1 = l at hl ⊢
 induction l with
 | nil => simp
 | cons i l ih =>
  have hi : i < n := hl i (by simp)
  have px : (part e (xs.map (Value.int k)).toArray (i * 1)).run P w = .ok (Value.int k (xs.getD i 0)) w := by
   simp [part, isAgg, run_underlying he, List.getD, List.getElem?_eq_getElem (show i < xs.length by omega)]
  have py : (part e (ys.map (Value.int k)).toArray (i * 1)).run P w = .ok (Value.int k (ys.getD i 0)) w := by
   simp [part, isAgg, run_underlying he, List.getD, List.getElem?_eq_getElem (show i < ys.length by omega)]
  have pe : (Op.equalIn (d + 1) e (Value.int k (xs.getD i 0)) (Value.int k (ys.getD i 0))).run P w = .ok (xs.getD i 0 == ys.getD i 0) w := by
   rw [run_equalIn_int w d e k k _ _ he]
  simp only [List.forIn_cons, Sem.run_bind, px, py, pe, Result.andThen_ok, List.all_cons]
  cases hb : (xs.getD i 0 == ys.getD i 0)
  ·simp
  ·simp only [Bool.not_true, Bool.false_eq_true, if_false, Sem.run_pure, Result.andThen_ok, Bool.true_and]
   exact ih fun j hj => hl j (by simp [hj])
end Go.Proofs.YtobjgebojhjhnaaDoor
namespace Go.Proofs.YtobjgebojhjhnaaDoor
open Go.RowKit
theorem sizeOf_u8 (w : World) : (sizeOf 5).run Tryd.prog w = .ok 1 w := by
 obtain ⟨i0, hi, hz⟩ := Option.map_eq_some_iff.1 size_u8
 simp [sizeOf, typeInfo, hi, hz]
theorem eqlP (x y : List UInt8) (hx : x.length = 32) (hy : y.length = 32) (w : World) : (binOp .eql 30 (.agg (x.map bv).toArray) (.agg (y.map bv).toArray)).run Tryd.prog w = .ok (.bool (x == y)) w :=
 run_eql_bytes w 30 5 32 Tryd.underlying30 Tryd.underlying5 sizeOf_u8 x y hx hy
theorem neqP (x y : List UInt8) (hx : x.length = 32) (hy : y.length = 32) (w : World) : (binOp .neq 30 (.agg (x.map bv).toArray) (.agg (y.map bv).toArray)).run Tryd.prog w = .ok (.bool (!(x == y))) w := by
 have h := run_equalIn_bytes w 9998 30 5 32 Tryd.underlying30 Tryd.underlying5 sizeOf_u8 x y hx hy
 rw [run_neq_struct]
 exact (congrArg (fun r : Result Bool => r.andThen fun b w' => .ok (Value.bool (!b)) w') h)
end Go.Proofs.YtobjgebojhjhnaaDoor
namespace Go.Proofs.YtobjgebojhjhnaaDoor
open Go.RowKit
theorem made_bytes (n s : Nat) (k : Int) (hk : k = s) (h : (n : Int) + s ≤ 140737488355328) (u : World) :
  (Instr.makeSlice 33 (.int .i64 0) (.int .i64 ((n : Int) + k))).run Tryd.prog u = .ok (.slice (some ⟨u.heap.size, 0, none⟩) 0 (n + s)) (u.alloc (.cells (madeCells #[.int .u8 0] (n + s)) 5)) := by
 subst hk
 obtain ⟨i0, hi, hz0, hz1, hz2⟩ := info_parts info_u8
 have h := run_make (P := Tryd.prog) u 33 5 i0 (.int .u8 0) Tryd.underlying33 hi hz0 .i64 .i64 (0 : Int) ((n : Int) + s) (by omega) (by omega) (by rw [hz2]; omega) (by omega)
 have e : ((n : Int) + s).toNat = n + s := by omega
 rw [e] at h
 simpa [hz1, Value.cells] using h
theorem byte_at (m : Int) (h : 0 ≤ m) (k : Nat) : m / 2 ^ (8 * k) % 256 = ((UInt8.ofNat (m.toNat / 256 ^ k)).toNat : Int) := by
 obtain ⟨n, rfl⟩ := Int.eq_ofNat_of_zero_le h
 have e : (UInt8.ofNat (n / 256 ^ k)).toNat = n / 256 ^ k % 256 := UInt8.toNat_ofNat'
 rw [Int.toNat_natCast, e, pow_256]
 simp
theorem byte_of (m : Int) (h : 0 ≤ m) : m % 256 = ((UInt8.ofNat m.toNat).toNat : Int) := by
 obtain ⟨n, rfl⟩ := Int.eq_ofNat_of_zero_le h
 have e : (UInt8.ofNat n).toNat = n % 256 := UInt8.toNat_ofNat'
 rw [Int.toNat_natCast, e]
 simp
end Go.Proofs.YtobjgebojhjhnaaDoor
namespace Go.Proofs.YtobjgebojhjhnaaDoor
open Go.RowKit
def waitOn : Nat → List Oper → List Oper
 | _, [] => []
 | 0, o :: r => ⟨o.dst, o.op, o.type, o.pos, o.after.push ⟨0, .data⟩, o.guard⟩ :: r
 | n + 1, o :: r => o :: waitOn n r
theorem waitOn_length : ∀ (n : Nat) (l : List Oper), (waitOn n l).length = l.length
 | _, [] => by rw [waitOn]
 | 0, _ :: _ => by rw [waitOn, List.length_cons, List.length_cons]
 | n + 1, _ :: r => by rw [waitOn, List.length_cons, List.length_cons, waitOn_length n r]
theorem waitOn_get : ∀ (n : Nat) (l : List Oper) (j : Nat), (waitOn n l)[j]? = (l[j]?).map fun o => if j = n then ⟨o.dst, o.op, o.type, o.pos, o.after.push ⟨0, .data⟩, o.guard⟩ else o
 | _, [], j => by rw [waitOn]; rfl
 | 0, o :: r, 0 => by rw [waitOn]; rfl
 | 0, o :: r, j + 1 => by
  rw [waitOn, List.getElem?_cons_succ, List.getElem?_cons_succ]
  cases r[j]? with
  | none => rfl
  | some x => simp
 | n + 1, o :: r, 0 => by rw [waitOn]; rfl
 | n + 1, o :: r, j + 1 => by
  rw [waitOn, List.getElem?_cons_succ, List.getElem?_cons_succ, waitOn_get n r j]
  cases r[j]? with
  | none => rfl
  | some x => simp
section
variable {P : Program} {Q : Exit → Act → World → Prop} {l : List Oper} {n : Nat}
theorem waitOn_yielded (tmps : Array Value) : yielded (waitOn n l).toArray tmps = yielded l.toArray tmps := by
 funext j
 unfold yielded
 have e : ((waitOn n l).toArray[j]?).bind (·.dst) = (l.toArray[j]?).bind (·.dst) := by
  simp only [List.getElem?_toArray, waitOn_get]
  cases l[j]? with
  | none => rfl
  | some o =>
   simp only [Option.map_some, Option.bind_some]
   split <;> rfl
 rw [e]
theorem waitOn_ready {listed : Array Bool} (h0 : listed.getD 0 false = true) : Region.ready .any (waitOn n l).toArray listed = Region.ready .any l.toArray listed := by
 unfold Region.ready
 simp only [List.size_toArray, waitOn_length]
 refine List.filter_congr fun j _ => ?_
 simp only [List.getElem?_toArray, waitOn_get]
 cases l[j]? with
 | none => rfl
 | some o =>
  simp only [Option.map_some, Option.getD_some]
  congr 1
  split
  ·simp only [Array.all_push, h0, Bool.or_true, Bool.and_true]
  ·rfl
theorem waitOn_op {i : Nat} {K : Act → World → Prop} {a : Act} {w : World} (h : wpOp P (waitOn n l).toArray Q i K a w) : wpOp P l.toArray Q i K a w := by
 unfold wpOp at h ⊢
 simp only [List.getElem?_toArray, waitOn_get, waitOn_yielded] at h ⊢
 cases hl : l[i]? with
 | none => rw [hl] at h; exact h
 | some o =>
  rw [hl] at h
  simp only [Option.map_some] at h ⊢
  split at h <;> exact h
theorem wpOp_imp {ops : Array Oper} {i : Nat} {K K' : Act → World → Prop} {a : Act} {w : World} (hk : ∀ a w, K a w → K' a w) (h : wpOp P ops Q i K a w) : wpOp P ops Q i K' a w := wpOp_mono hk h
theorem getD_keep {listed : Array Bool} (h0 : listed.getD 0 false = true) (i : Nat) : (listed.setIfInBounds i true).getD 0 false = true := by
 rw [Array.getD_eq_getD_getElem?] at h0 ⊢
 rw [Array.getElem?_setIfInBounds]
 split
 ·split
  ·rfl
  ·rename_i h1 h2; subst h1; rw [Array.getElem?_eq_none (by omega)] at h0; cases h0
 ·exact h0
theorem waitOn_any : ∀ (fuel : Nat) (listed : Array Bool) (a : Act) (w : World), listed.getD 0 false = true → wpAny P .any (waitOn n l).toArray Q fuel listed a w → wpAny P .any l.toArray Q fuel listed a w
 | 0, listed, a, w, h0, h => by
  unfold wpAny at h ⊢
  rw [waitOn_ready h0] at h
  exact h
 | fuel + 1, listed, a, w, h0, h => by
  unfold wpAny at h ⊢
  rw [waitOn_ready h0] at h
  exact ⟨h.1, fun i hi => wpOp_imp (fun a' w' h' => waitOn_any fuel _ a' w' (getD_keep h0 i) h') (waitOn_op (h.2 i hi))⟩
end
theorem wp_region_relM {P : Program} {Q : Exit → Act → World → Prop} {id : Nat} {a : Act} {w : World} {l l' : List Oper} (m n : Nat) (L : List (Nat × VP)) (R : World → World → Prop) (hm : P.follows .mixedOrders = true) (hl : waitOn m l = l')
  {d : Option Tmp} {x : Operand} {tp : TypeId} {ps : String} {r : List Oper} (h0 : l = ⟨d, .move x, tp, ps, #[], none⟩ :: r) (hm0 : 0 < m) (hs : Region.noSelect l.toArray = true) (hf : Region.free .any l.toArray (Array.replicate l.toArray.size false) 0 = true)
  (hQ2 : ∀ c a' w, Q (.panic c) (a'.put d (a.eval x)) w → Q (.panic c) a' w)
  (hT : tailB l'.toArray n = true) (hB : relB l'.toArray (L.map (·.1)) = true)
  (hkn : L.all (fun p => decide (p.1 < n)) = true)
  (hrange : l'.all (fun o => match o.dst with | some d => decide (d < a.tmps.size) | none => true) = true)
  (hrefl : ∀ w, R w w) (htr : ∀ a b d, R a b → R b d → R a d) (hmono : ∀ p ∈ L, ∀ v w w', R w w' → p.2 v w → p.2 v w')
  (h : relWalk P l'.toArray R (fun _ a' w' => wpList P l'.toArray Q (l'.drop n) a' w') w.drew L 0 (l'.take n) a) : (Code.region id l.toArray true).wp P Q a w := by
 refine wp_region_any hm ?_
 have h1 := relT_wpAny n L R hT hB hkn hrange hrefl htr hmono h
 subst hl
 subst h0
 obtain ⟨m, rfl⟩ : ∃ k, m = k + 1 := ⟨m - 1, by omega⟩
 have hsz : (waitOn (m + 1) (⟨d, .move x, tp, ps, #[], none⟩ :: r)).toArray.size = r.length + 1 := by rw [List.size_toArray, waitOn_length, List.length_cons]
 have hsz2 : (⟨d, .move x, tp, ps, #[], none⟩ :: r : List Oper).toArray.size = r.length + 1 := by rw [List.size_toArray, List.length_cons]
 rw [hsz] at h1
 rw [hsz2] at hf
 show wpAny P .any (⟨d, .move x, tp, ps, #[], none⟩ :: r : List Oper).toArray Q (⟨d, .move x, tp, ps, #[], none⟩ :: r : List Oper).toArray.size (Array.replicate (⟨d, .move x, tp, ps, #[], none⟩ :: r : List Oper).toArray.size false) a w.drew
 rw [hsz2]
 have hr1 : 0 ∈ Region.ready .any (waitOn (m + 1) (⟨d, .move x, tp, ps, #[], none⟩ :: r)).toArray (Array.replicate (r.length + 1) false) := by
  rw [mem_ready]
  exact ⟨by simp [Array.getD_eq_getD_getElem?], ⟨d, .move x, tp, ps, #[], none⟩, by rw [List.getElem?_toArray, waitOn]; rfl, fun e he => by simp at he⟩
 have hr2 : 0 ∈ Region.ready .any (⟨d, .move x, tp, ps, #[], none⟩ :: r : List Oper).toArray (Array.replicate (r.length + 1) false) := by
  rw [mem_ready]
  exact ⟨by simp [Array.getD_eq_getD_getElem?], ⟨d, .move x, tp, ps, #[], none⟩, rfl, fun e he => by simp at he⟩
 unfold wpAny at h1
 have h2 := h1.2 0 hr1
 unfold wpOp at h2
 rw [List.getElem?_toArray, waitOn] at h2
 simp only [List.getElem?_cons_zero, Region.wanted, if_true] at h2
 have h3 : wpAny P .any (waitOn (m + 1) (⟨d, .move x, tp, ps, #[], none⟩ :: r)).toArray Q r.length ((Array.replicate (r.length + 1) false).setIfInBounds 0 true) (a.put d (a.eval x)) w.drew := by
  rcases h2 with h2 | h2
  ·exact h2
  ·exact absurd h2.1.1 (Array.not_mem_empty _)
 have h4 := waitOn_any _ _ _ _ (by simp [Array.getD_eq_getD_getElem?]) h3
 exact wpAny_take (i := 0) (oi := ⟨d, .move x, tp, ps, #[], none⟩) (v := a.eval x) rfl hs hf (by simpa using hr2) hQ2 (Or.inl ⟨rfl, fun w => rfl⟩) h4
end Go.Proofs.YtobjgebojhjhnaaDoor
namespace Go.Proofs.YtobjgebojhjhnaaDoor
open Go.RowKit
attribute [local go_sem high] slB_lh slB_l slB_h nilB_eq
set_option maxHeartbeats 400000 in
theorem bytes_Clone (bs : List UInt8) (A : Option Addr) (n c : Nat) (w : World) (hr : Rd w A (bs.map bv)) (hn : bs.length = n) (hm : (n : Int) ≤ 140737488355000) :
  Calls Tryd.prog 46 #[.slice A n c] w fun e w' => ∃ v, e = .returned v ∧ OwnB w' w.heap.size v bs ∧ Below w.heap.size w w' := by
 cases A with
 | none =>
  have hb : bs = [] := by
   rcases hr with h | ⟨_, _, h, _⟩
   ·simpa using h
   ·cases h
  subst hb
  clear hn hm hr
  have hnn : (none : Option Addr).isNone = true := rfl
  go_enter Tryd.func46, Tryd.ntmps46
  go_wp2
  go_ret
  exact ⟨_, rfl, OwnB.nil _ _, Below.refl _ _⟩
 | some a =>
  have hmade := OwnB.made w w.heap.size (Nat.le_refl _) #[] 0 (by simp only [maxLen]; omega) rfl
  have hb1 := (Below.refl w.heap.size w).alloc (Nat.le_refl _) (.cells #[] 5)
  have hr1 := hr.below hb1
  have hnn : (some a : Option Addr).isNone = false := rfl
  have Hn := Lib.hid hn
  clear hn
  go_enter Tryd.func46, Tryd.ntmps46
  go_wp2_with (at_builtin; refine wpList_appB hmade hb1 (by simp) n c hr1 Hn.out (by simp; omega) rfl (.tmp 5) (.tmp 6) rfl rfl rfl ?_; intro v1 w1 hown1 hb2 hz2 _)
  go_ret
  exact ⟨_, rfl, hown1, hb2⟩
end Go.Proofs.YtobjgebojhjhnaaDoor
namespace Go.Proofs.YtobjgebojhjhnaaDoor
open Go.RowKit
theorem size_int (n : Int) (h : 0 ≤ n) : (n < 253 ∧ Cm.size n.toNat = 1) ∨ (253 ≤ n ∧ n < 65536 ∧ Cm.size n.toNat = 3) ∨ (65536 ≤ n ∧ n < 4294967296 ∧ Cm.size n.toNat = 5) ∨ (4294967296 ≤ n ∧ Cm.size n.toNat = 9) := by
 rcases Cm.size_cases n.toNat with c | c | c | c
 ·exact .inl (by omega)
 ·exact .inr (.inl (by omega))
 ·exact .inr (.inr (.inl (by omega)))
 ·exact .inr (.inr (.inr (by omega)))
set_option maxHeartbeats 400000 in
theorem compact_Size (n : Int) (h : 0 ≤ n) (w : World) :
  Calls Tryd.prog 90 #[.int .u64 n] w fun e w' => e = .returned (.int .i64 (Cm.size n.toNat : Int)) ∧ w = w' := by
 rcases size_int n h with ⟨c1, c2⟩ | ⟨c0, c1, c2⟩ | ⟨c0, c1, c2⟩ | ⟨c1, c2⟩
 all_goals
  rw [c2]; clear c2
  go_enter Tryd.func90, Tryd.ntmps90
  go_wp2
  go_ret
  exact ⟨rfl, rfl⟩
end Go.Proofs.YtobjgebojhjhnaaDoor
namespace Go.Proofs.YtobjgebojhjhnaaDoor
open Go.RowKit
set_option maxHeartbeats 400000 in
theorem compact_Put_1 (bs : List UInt8) (A : Option Addr) (n c : Nat) (m : Int) (h0 : 0 ≤ m) (hsm : Cm.size m.toNat = 1) (w : World) (hr : Rd w A (bs.map bv)) (hn : bs.length = n) (hm : (n : Int) ≤ 140737488355000) :
  Calls Tryd.prog 74 #[.slice A n c, .int .u64 m] w fun e w' => ∃ v, e = .returned v ∧ OwnB w' w.heap.size v (bs ++ [UInt8.ofNat m.toNat]) ∧ Below w.heap.size w w' := by
 have hsz := compact_Size m h0 w
 rw [hsm] at hsz
 have H := Lib.hid hsz
 have Hn := Lib.hid hn
 have hmk := made_bytes n 1 1 rfl (by omega)
 have hle : bs.length + 16 ≤ 140737488355328 := by omega
 have hmade := OwnB.made w w.heap.size (Nat.le_refl _) (madeCells #[.int .u8 0] (n + 1)) (n + 1) (by simp only [maxLen]; omega) (by simp [size_madeCells])
 have hr1 := hr.below ((Below.refl w.heap.size w).alloc (Nat.le_refl _) (.cells (madeCells #[.int .u8 0] (n + 1)) 5))
 have hb1 := (Below.refl w.heap.size w).alloc (Nat.le_refl _) (.cells (madeCells #[.int .u8 0] (n + 1)) 5)
 clear hsz hsm hn
 go_enter Tryd.func74, Tryd.ntmps74
 go_wp2_with (first
  | (go_at_call 90; refine (H.out).mono ?_; rintro e w' ⟨rfl, rfl⟩)
  | (at_builtin; refine wpList_appB hmade hb1 (by simp) n c hr1 Hn.out (by simp; omega) rfl (.tmp 15) (.tmp 16) rfl rfl rfl ?_; intro v1 w1 hown1 hb2 hz2 _)
  | (at_builtin; refine wpList_appB1 hown1 hb2 hb2.size _ (byte_of m h0) (by simp; omega) rfl (.tmp 24) (.tmp 27) rfl rfl rfl ?_; intro v2 w2 hown2 hb3 hz3))
 go_ret
 exact ⟨v2, rfl, hown2, hb3⟩
set_option maxHeartbeats 400000 in
theorem compact_Put_3 (bs : List UInt8) (A : Option Addr) (n c : Nat) (m : Int) (h0 : 0 ≤ m) (hsm : Cm.size m.toNat = 3) (w : World) (hr : Rd w A (bs.map bv)) (hn : bs.length = n) (hm : (n : Int) ≤ 140737488355000) :
  Calls Tryd.prog 74 #[.slice A n c, .int .u64 m] w fun e w' => ∃ v, e = .returned v ∧ OwnB w' w.heap.size v (bs ++ 253 :: Cm.lo 2 m.toNat) ∧ Below w.heap.size w w' := by
 have hsz := compact_Size m h0 w
 rw [hsm] at hsz
 have H := Lib.hid hsz
 have Hn := Lib.hid hn
 have hmk := made_bytes n 3 3 rfl (by omega)
 have hle : bs.length + 16 ≤ 140737488355328 := by omega
 have hmade := OwnB.made w w.heap.size (Nat.le_refl _) (madeCells #[.int .u8 0] (n + 3)) (n + 3) (by simp only [maxLen]; omega) (by simp [size_madeCells])
 have hr1 := hr.below ((Below.refl w.heap.size w).alloc (Nat.le_refl _) (.cells (madeCells #[.int .u8 0] (n + 3)) 5))
 have hb1 := (Below.refl w.heap.size w).alloc (Nat.le_refl _) (.cells (madeCells #[.int .u8 0] (n + 3)) 5)
 clear hsz hsm hn
 go_enter Tryd.func74, Tryd.ntmps74
 go_wp2_with (first
  | (go_at_call 90; refine (H.out).mono ?_; rintro e w' ⟨rfl, rfl⟩)
  | (at_builtin; refine wpList_appB hmade hb1 (by simp) n c hr1 Hn.out (by simp; omega) rfl (.tmp 15) (.tmp 16) rfl rfl rfl ?_; intro v1 w1 hown1 hb2 hz2 _)
  | (at_builtin; refine wpList_appB1 hown1 hb2 hb2.size 253 rfl (by simp; omega) rfl (.tmp 31) (.tmp 32) rfl rfl rfl ?_; intro v2 w2 hown2 hb3 hz3))
 go_loopw [6, 41] (fun v i wr => ∃ k : Nat, k ≤ 2 ∧ i = .int .i64 k ∧ OwnB wr w.heap.size v (bs ++ 253 :: Cm.lo k m.toNat) ∧ Below w.heap.size w wr) (fun _ i _ => 2 - (intOf i).toNat)
 case atStart => exact ⟨0, by omega, rfl, by simpa [Cm.lo] using hown2, hb3⟩
 case round =>
  obtain ⟨k, hk, rfl, ho, hbr⟩ := hrel
  have hll : (Cm.lo k m.toNat).length ≤ 2 := by rw [Cm.lo_length]; exact hk
  by_cases hkm : k < 2
  ·go_wp2_with (at_builtin; refine wpList_appB1 ho hbr hbr.size (UInt8.ofNat (m.toNat / 256 ^ k)) (byte_at m h0 k) (by simp; omega) rfl (.tmp 44) (.tmp 50) rfl rfl rfl ?_; intro v3 w3 hown3 hb4 hz4)
   go_roundw
   case rel => exact ⟨k + 1, by omega, by go_num, by rw [Cm.lo_snoc]; simpa using hown3, hb4⟩
   case measure => simp [intOf]; omega
  ·obtain rfl : k = 2 := by omega
   go_wp2
   go_ret
   exact ⟨_, rfl, ho, hbr⟩
set_option maxHeartbeats 400000 in
theorem compact_Put_5 (bs : List UInt8) (A : Option Addr) (n c : Nat) (m : Int) (h0 : 0 ≤ m) (hsm : Cm.size m.toNat = 5) (w : World) (hr : Rd w A (bs.map bv)) (hn : bs.length = n) (hm : (n : Int) ≤ 140737488355000) :
  Calls Tryd.prog 74 #[.slice A n c, .int .u64 m] w fun e w' => ∃ v, e = .returned v ∧ OwnB w' w.heap.size v (bs ++ 254 :: Cm.lo 4 m.toNat) ∧ Below w.heap.size w w' := by
 have hsz := compact_Size m h0 w
 rw [hsm] at hsz
 have H := Lib.hid hsz
 have Hn := Lib.hid hn
 have hmk := made_bytes n 5 5 rfl (by omega)
 have hle : bs.length + 16 ≤ 140737488355328 := by omega
 have hmade := OwnB.made w w.heap.size (Nat.le_refl _) (madeCells #[.int .u8 0] (n + 5)) (n + 5) (by simp only [maxLen]; omega) (by simp [size_madeCells])
 have hr1 := hr.below ((Below.refl w.heap.size w).alloc (Nat.le_refl _) (.cells (madeCells #[.int .u8 0] (n + 5)) 5))
 have hb1 := (Below.refl w.heap.size w).alloc (Nat.le_refl _) (.cells (madeCells #[.int .u8 0] (n + 5)) 5)
 clear hsz hsm hn
 go_enter Tryd.func74, Tryd.ntmps74
 go_wp2_with (first
  | (go_at_call 90; refine (H.out).mono ?_; rintro e w' ⟨rfl, rfl⟩)
  | (at_builtin; refine wpList_appB hmade hb1 (by simp) n c hr1 Hn.out (by simp; omega) rfl (.tmp 15) (.tmp 16) rfl rfl rfl ?_; intro v1 w1 hown1 hb2 hz2 _)
  | (at_builtin; refine wpList_appB1 hown1 hb2 hb2.size 254 rfl (by simp; omega) rfl (.tmp 36) (.tmp 37) rfl rfl rfl ?_; intro v2 w2 hown2 hb3 hz3))
 go_loopw [6, 41] (fun v i wr => ∃ k : Nat, k ≤ 4 ∧ i = .int .i64 k ∧ OwnB wr w.heap.size v (bs ++ 254 :: Cm.lo k m.toNat) ∧ Below w.heap.size w wr) (fun _ i _ => 4 - (intOf i).toNat)
 case atStart => exact ⟨0, by omega, rfl, by simpa [Cm.lo] using hown2, hb3⟩
 case round =>
  obtain ⟨k, hk, rfl, ho, hbr⟩ := hrel
  have hll : (Cm.lo k m.toNat).length ≤ 4 := by rw [Cm.lo_length]; exact hk
  by_cases hkm : k < 4
  ·go_wp2_with (at_builtin; refine wpList_appB1 ho hbr hbr.size (UInt8.ofNat (m.toNat / 256 ^ k)) (byte_at m h0 k) (by simp; omega) rfl (.tmp 44) (.tmp 50) rfl rfl rfl ?_; intro v3 w3 hown3 hb4 hz4)
   go_roundw
   case rel => exact ⟨k + 1, by omega, by go_num, by rw [Cm.lo_snoc]; simpa using hown3, hb4⟩
   case measure => simp [intOf]; omega
  ·obtain rfl : k = 4 := by omega
   go_wp2
   go_ret
   exact ⟨_, rfl, ho, hbr⟩
set_option maxHeartbeats 400000 in
theorem compact_Put_9 (bs : List UInt8) (A : Option Addr) (n c : Nat) (m : Int) (h0 : 0 ≤ m) (hsm : Cm.size m.toNat = 9) (w : World) (hr : Rd w A (bs.map bv)) (hn : bs.length = n) (hm : (n : Int) ≤ 140737488355000) :
  Calls Tryd.prog 74 #[.slice A n c, .int .u64 m] w fun e w' => ∃ v, e = .returned v ∧ OwnB w' w.heap.size v (bs ++ 255 :: Cm.lo 8 m.toNat) ∧ Below w.heap.size w w' := by
 have hsz := compact_Size m h0 w
 rw [hsm] at hsz
 have H := Lib.hid hsz
 have Hn := Lib.hid hn
 have hmk := made_bytes n 9 9 rfl (by omega)
 have hle : bs.length + 16 ≤ 140737488355328 := by omega
 have hmade := OwnB.made w w.heap.size (Nat.le_refl _) (madeCells #[.int .u8 0] (n + 9)) (n + 9) (by simp only [maxLen]; omega) (by simp [size_madeCells])
 have hr1 := hr.below ((Below.refl w.heap.size w).alloc (Nat.le_refl _) (.cells (madeCells #[.int .u8 0] (n + 9)) 5))
 have hb1 := (Below.refl w.heap.size w).alloc (Nat.le_refl _) (.cells (madeCells #[.int .u8 0] (n + 9)) 5)
 clear hsz hsm hn
 go_enter Tryd.func74, Tryd.ntmps74
 go_wp2_with (first
  | (go_at_call 90; refine (H.out).mono ?_; rintro e w' ⟨rfl, rfl⟩)
  | (at_builtin; refine wpList_appB hmade hb1 (by simp) n c hr1 Hn.out (by simp; omega) rfl (.tmp 15) (.tmp 16) rfl rfl rfl ?_; intro v1 w1 hown1 hb2 hz2 _)
  | (at_builtin; refine wpList_appB1 hown1 hb2 hb2.size 255 rfl (by simp; omega) rfl (.tmp 19) (.tmp 20) rfl rfl rfl ?_; intro v2 w2 hown2 hb3 hz3))
 go_loopw [6, 41] (fun v i wr => ∃ k : Nat, k ≤ 8 ∧ i = .int .i64 k ∧ OwnB wr w.heap.size v (bs ++ 255 :: Cm.lo k m.toNat) ∧ Below w.heap.size w wr) (fun _ i _ => 8 - (intOf i).toNat)
 case atStart => exact ⟨0, by omega, rfl, by simpa [Cm.lo] using hown2, hb3⟩
 case round =>
  obtain ⟨k, hk, rfl, ho, hbr⟩ := hrel
  have hll : (Cm.lo k m.toNat).length ≤ 8 := by rw [Cm.lo_length]; exact hk
  by_cases hkm : k < 8
  ·go_wp2_with (at_builtin; refine wpList_appB1 ho hbr hbr.size (UInt8.ofNat (m.toNat / 256 ^ k)) (byte_at m h0 k) (by simp; omega) rfl (.tmp 44) (.tmp 50) rfl rfl rfl ?_; intro v3 w3 hown3 hb4 hz4)
   go_roundw
   case rel => exact ⟨k + 1, by omega, by go_num, by rw [Cm.lo_snoc]; simpa using hown3, hb4⟩
   case measure => simp [intOf]; omega
  ·obtain rfl : k = 8 := by omega
   go_wp2
   go_ret
   exact ⟨_, rfl, ho, hbr⟩
theorem compact_Put (bs : List UInt8) (A : Option Addr) (n c : Nat) (m : Int) (h0 : 0 ≤ m) (O : List UInt8) (hO : bs ++ Cm.put m.toNat = O) (w : World) (hr : Rd w A (bs.map bv)) (hn : bs.length = n) (hm : (n : Int) ≤ 140737488355000) :
  Calls Tryd.prog 74 #[.slice A n c, .int .u64 m] w fun e w' => ∃ v, e = .returned v ∧ OwnB w' w.heap.size v O ∧ Below w.heap.size w w' := by
 subst hO
 unfold Cm.put
 rcases Cm.size_cases m.toNat with h | h | h | h
 ·rw [if_pos h.1]
  exact compact_Put_1 bs A n c m h0 h.2 w hr hn hm
 ·rw [if_neg (by omega), Cm.mark, if_pos h.2.1, h.2.2]
  exact compact_Put_3 bs A n c m h0 h.2.2 w hr hn hm
 ·rw [if_neg (by omega), Cm.mark, if_neg (by omega), if_pos h.2.1, h.2.2]
  exact compact_Put_5 bs A n c m h0 h.2.2 w hr hn hm
 ·rw [if_neg (by omega), Cm.mark, if_neg (by omega), if_neg (by omega), h.2]
  exact compact_Put_9 bs A n c m h0 h.2 w hr hn hm
end Go.Proofs.YtobjgebojhjhnaaDoor
namespace Go.Proofs.YtobjgebojhjhnaaDoor
open Go.RowKit
end Go.Proofs.YtobjgebojhjhnaaDoor
namespace Go.Proofs.YtobjgebojhjhnaaDoor
open Go.RowKit
def late (i : Nat) : Nat → List Oper → List Oper
 | _, [] => []
 | 0, o :: r => ⟨o.dst, o.op, o.type, o.pos, o.after.push ⟨i, .data⟩, o.guard⟩ :: r
 | n + 1, o :: r => o :: late i n r
theorem late_length (i : Nat) : ∀ (n : Nat) (l : List Oper), (late i n l).length = l.length
 | _, [] => by rw [late]
 | 0, _ :: _ => by rw [late, List.length_cons, List.length_cons]
 | n + 1, _ :: r => by rw [late, List.length_cons, List.length_cons, late_length i n r]
theorem late_get (i : Nat) : ∀ (n : Nat) (l : List Oper) (j : Nat), (late i n l)[j]? = (l[j]?).map fun o => if j = n then ⟨o.dst, o.op, o.type, o.pos, o.after.push ⟨i, .data⟩, o.guard⟩ else o
 | _, [], j => by rw [late]; rfl
 | 0, o :: r, 0 => by rw [late]; rfl
 | 0, o :: r, j + 1 => by
  rw [late, List.getElem?_cons_succ, List.getElem?_cons_succ]
  cases r[j]? with
  | none => rfl
  | some x => simp
 | n + 1, o :: r, 0 => by rw [late]; rfl
 | n + 1, o :: r, j + 1 => by
  rw [late, List.getElem?_cons_succ, List.getElem?_cons_succ, late_get i n r j]
  cases r[j]? with
  | none => rfl
  | some x => simp
def lateB (i m : Nat) (l : List Oper) : Bool :=
 decide (i ≠ m) && match l[i]?, l[m]? with
 | some oi, some om => (match oi.op with | .extract _ _ => true | _ => false) && oi.guard.isNone && oi.after.all (fun e => !(Region.binds .any e) || om.after.any (fun f => Region.binds .any f && f.on == e.on)) &&
   (List.range l.length).all (fun j => j == i || oi.after.any (fun e => Region.binds .any e && e.on == j) || match l[j]? with | some oj => oj.after.any (fun e => Region.binds .any e && e.on == i) || oi.apart l.toArray oj | none => true)
 | _, _ => false
section
variable {P : Program} {Q : Exit → Act → World → Prop} {l : List Oper} {i m : Nat}
theorem late_yielded (tmps : Array Value) : yielded (late i m l).toArray tmps = yielded l.toArray tmps := by
 funext j
 unfold yielded
 have e : ((late i m l).toArray[j]?).bind (·.dst) = (l.toArray[j]?).bind (·.dst) := by
  simp only [List.getElem?_toArray, late_get]
  cases l[j]? with
  | none => rfl
  | some o =>
   simp only [Option.map_some, Option.bind_some]
   split <;> rfl
 rw [e]
theorem late_ready {listed : Array Bool} {j : Nat} : j ∈ Region.ready .any (late i m l).toArray listed ↔ j ∈ Region.ready .any l.toArray listed ∧ (j = m → listed.getD i false = true) := by
 rw [mem_ready, mem_ready]
 simp only [List.getElem?_toArray, late_get]
 cases hj : l[j]? with
 | none => simp
 | some o =>
  simp only [Option.map_some, Option.some.injEq, exists_eq_left']
  by_cases h : j = m
  ·simp only [h, if_true, Array.mem_push, forall_const]
   constructor
   ·rintro ⟨h1, h2⟩
    exact ⟨⟨h1, fun e he hb => h2 e (Or.inl he) hb⟩, h2 ⟨i, .data⟩ (Or.inr rfl) rfl⟩
   ·rintro ⟨⟨h1, h2⟩, h3⟩
    refine ⟨h1, fun e he hb => ?_⟩
    rcases he with he | rfl
    ·exact h2 e he hb
    ·exact h3
  ·simp only [h, if_false, false_implies, and_true]
theorem late_op {j : Nat} {K : Act → World → Prop} {a : Act} {w : World} (h : wpOp P (late i m l).toArray Q j K a w) : wpOp P l.toArray Q j K a w := by
 unfold wpOp at h ⊢
 simp only [List.getElem?_toArray, late_get, late_yielded] at h ⊢
 cases hl : l[j]? with
 | none => rw [hl] at h; exact h
 | some o =>
  rw [hl] at h
  simp only [Option.map_some] at h ⊢
  split at h <;> exact h
theorem extract_pure {x : Operand} {ix : Nat} {o : Oper} (ho : o.op = .extract x ix) (a : Act) : (∃ v, ∀ w, (execOp a.eval o).run P w = .ok (.value v) w) ∨ (∃ t : String, ∀ w, (execOp a.eval o).run P w = ((stuck t : Sem Next).run P w)) := by
 have e : execOp a.eval o = (do pure (.value (← Instr.extract (a.eval x) ix))) := by
  unfold execOp
  simp only [ho]
 rw [e]
 unfold Instr.extract
 cases a.eval x with
 | tuple vs =>
  cases h : vs[ix]? with
  | some v => exact .inl ⟨v, fun w => by simp [h]⟩
  | none => exact .inr ⟨_, fun w => by simp [h, stuck]; rfl⟩
 | _ => exact .inr ⟨_, fun w => by simp [stuck]; rfl⟩
theorem late_any (hB : lateB i m l = true) (hs : Region.noSelect l.toArray = true) (hQ2 : ∀ d v c a w, (l[i]?).bind (·.dst) = d → Q (.panic c) (a.put d v) w → Q (.panic c) a w) (hna : ∀ (o : Oper) a w, l[i]? = some o → noRoomEvent ∉ ((execOp (Act.eval a) o).runT P w #[]).2) :
  ∀ (fuel : Nat) (listed : Array Bool) (a : Act) (w : World), listed.size = l.length → wpAny P .any (late i m l).toArray Q fuel listed a w → wpAny P .any l.toArray Q fuel listed a w := by
 unfold lateB at hB
 simp only [Bool.and_eq_true, decide_eq_true_eq] at hB
 obtain ⟨him, hB⟩ := hB
 cases hoi : l[i]? with
 | none => rw [hoi] at hB; simp at hB
 | some oi =>
  cases hom : l[m]? with
  | none => rw [hoi, hom] at hB; simp at hB
  | some om =>
   rw [hoi, hom] at hB
   simp only [Bool.and_eq_true, Array.all_eq_true', List.all_eq_true, List.mem_range] at hB
   obtain ⟨⟨⟨hop, hgd⟩, haf⟩, hfr⟩ := hB
   have hil := (List.getElem?_eq_some_iff.1 hoi).1
   have hml := (List.getElem?_eq_some_iff.1 hom).1
   have hgd' : oi.guard = none := by simpa using hgd
   have key : ∀ listed : Array Bool, listed.size = l.length → m ∈ Region.ready .any l.toArray listed → listed.getD i false = false → i ∈ Region.ready .any l.toArray listed := by
    intro listed hsz hm hi
    rw [mem_ready] at hm ⊢
    obtain ⟨_, o, ho, hall⟩ := hm
    rw [List.getElem?_toArray, hom] at ho
    injection ho with ho
    subst ho
    refine ⟨?_, oi, by rw [List.getElem?_toArray]; exact hoi, fun e he hb => ?_⟩
    ·rw [Array.getD_eq_getD_getElem?, Array.getElem?_eq_getElem (by omega)] at hi ⊢
     exact hi
    ·have := haf e he
     rw [hb] at this
     simp only [Bool.not_true, Bool.false_or, Array.any_eq_true', Bool.and_eq_true, beq_iff_eq] at this
     obtain ⟨f, hf, hfb, hfo⟩ := this
     rw [← hfo]
     exact hall f hf hfb
   intro fuel
   induction fuel with
   | zero =>
    intro listed a w hsz h
    unfold wpAny at h ⊢
    refine ⟨List.eq_nil_iff_forall_not_mem.2 fun j hj => ?_, h.2⟩
    have hno := List.eq_nil_iff_forall_not_mem.1 h.1
    by_cases hjm : j = m
    ·subst hjm
     cases hi : listed.getD i false with
     | true => exact hno j (late_ready.2 ⟨hj, fun _ => hi⟩)
     | false => exact hno i (late_ready.2 ⟨key listed hsz hj hi, fun e => absurd e him⟩)
    ·exact hno j (late_ready.2 ⟨hj, fun e => absurd e hjm⟩)
   | succ fuel ih =>
    intro listed a w hsz h
    by_cases hc : m ∈ Region.ready .any l.toArray listed ∧ listed.getD i false = false
    ·have hir := key listed hsz hc.1 hc.2
     have hir' : i ∈ Region.ready .any (late i m l).toArray listed := late_ready.2 ⟨hir, fun e => absurd e him⟩
     unfold wpAny at h
     have h2 := late_op (h.2 i hir')
     unfold wpOp at h2
     rw [List.getElem?_toArray, hoi] at h2
     simp only [Region.wanted, hgd', if_true] at h2
     match hx : oi.op, hop with
     | .extract x ix, _ =>
      rcases extract_pure (P := P) hx a with ⟨v, hv⟩ | ⟨t, hv⟩
      ·have h3 : wpAny P .any (late i m l).toArray Q fuel (listed.setIfInBounds i true) (a.put oi.dst v) w := by
        rcases h2 with h2 | h2
        ·unfold Oper.wp at h2
         rw [hv] at h2
         exact h2
        ·exact absurd h2.1.1 (hna oi a w hoi)
       exact wpAny_take (i := i) (oi := oi) (v := v) (by rw [List.getElem?_toArray]; exact hoi) hs (by
        unfold Region.free
        rw [List.getElem?_toArray, hoi]
        simp only [List.all_eq_true, List.mem_range, List.size_toArray]
        intro j hj
        have := hfr j hj
        rw [mem_ready] at hir
        obtain ⟨_, o2, ho2, hall2⟩ := hir
        rw [List.getElem?_toArray, hoi] at ho2
        injection ho2 with ho2
        subst ho2
        have hdep : oi.after.any (fun e => Region.binds .any e && e.on == j) = true → listed.getD j true = true := fun hd => by
         simp only [Array.any_eq_true', Bool.and_eq_true, beq_iff_eq] at hd
         obtain ⟨f, hf, hfb, hfo⟩ := hd
         have h5 := hall2 f hf hfb
         rw [hfo] at h5
         rw [Array.getD_eq_getD_getElem?, Array.getElem?_eq_getElem (by omega)] at h5 ⊢
         exact h5
        simp only [List.getElem?_toArray]
        cases hlj : l[j]? with
        | none => simp
        | some oj =>
         rw [hlj] at this
         simp only [Bool.or_eq_true] at this ⊢
         rcases this with (h | h) | h | h
         ·exact .inl (.inl h)
         ·exact .inl (.inr (hdep h))
         ·exact .inr (.inl h)
         ·exact .inr (.inr h)) (by simpa using hir) (fun c a' w' hq => hQ2 oi.dst v c a' w' (by rw [hoi]; rfl) hq) (Or.inl ⟨by simp [Region.wanted, hgd'], hv⟩) (ih _ _ _ (by simpa using hsz) h3)
      ·exfalso
       rcases h2 with h2 | h2
       ·unfold Oper.wp at h2
        rw [hv] at h2
        exact h2
       ·exact absurd h2.1.1 (hna oi a w hoi)
    ·unfold wpAny at h ⊢
     have hmem : ∀ j, j ∈ Region.ready .any l.toArray listed → j ∈ Region.ready .any (late i m l).toArray listed := fun j hj => late_ready.2 ⟨hj, fun e => by
      subst e
      cases hi : listed.getD i false with
      | true => rfl
      | false => exact absurd ⟨hj, hi⟩ hc⟩
     refine ⟨fun hr => h.1 (List.eq_nil_iff_forall_not_mem.2 fun j hj => by
      have := (late_ready.1 hj).1
      rw [hr] at this
      cases this), fun j hj => late_op (wpOp_mono (fun a' w' h' => ih _ a' w' (by simpa using hsz) h') (h.2 j (hmem j hj)))⟩
theorem extract_quiet {x : Operand} {ix : Nat} {o : Oper} (ho : o.op = .extract x ix) (a : Act) (w : World) : ((execOp a.eval o).runT P w #[]).2 = #[] := by
 have e : execOp a.eval o = (do pure (.value (← Instr.extract (a.eval x) ix))) := by
  unfold execOp
  simp only [ho]
 rw [e]
 unfold Instr.extract
 cases a.eval x with
 | tuple vs =>
  cases h : vs[ix]? with
  | some v => simp only [h]; rfl
  | none => simp only [h]; rfl
 | _ => rfl
def lates : List (Nat × Nat) → List Oper → List Oper
 | [], l => l
 | (i, m) :: r, l => late i m (lates r l)
def latesB : List (Nat × Nat) → List Oper → Bool
 | [], _ => true
 | (i, m) :: r, l => lateB i m (lates r l) && Region.noSelect (lates r l).toArray && latesB r l
theorem lates_length : ∀ (E : List (Nat × Nat)) (l : List Oper), (lates E l).length = l.length
 | [], _ => rfl
 | (i, m) :: r, l => by rw [lates, late_length, lates_length r l]
theorem lates_any (hQ2 : ∀ t v c a w, Q (.panic c) (a.put (some t) v) w → Q (.panic c) a w) : ∀ (E : List (Nat × Nat)) (l : List Oper), latesB E l = true → ∀ (fuel : Nat) (listed : Array Bool) (a : Act) (w : World), listed.size = l.length → wpAny P .any (lates E l).toArray Q fuel listed a w → wpAny P .any l.toArray Q fuel listed a w
 | [], _, _, _, _, _, _, _, h => h
 | (i, m) :: r, l, hB, fuel, listed, a, w, hsz, h => by
  simp only [latesB, Bool.and_eq_true] at hB
  refine lates_any hQ2 r l hB.2 fuel listed a w hsz (late_any hB.1.1 hB.1.2 ?_ ?_ fuel listed a w (by rw [hsz, lates_length]) h)
  ·intro d v c a' w' _ hq
   cases d with
   | none => exact hq
   | some t => exact hQ2 t v c a' w' hq
  ·intro o a' w' ho hmem
   have hB1 := hB.1.1
   unfold lateB at hB1
   rw [ho] at hB1
   cases hom : (lates r l)[m]? with
   | none => rw [hom] at hB1; simp at hB1
   | some om =>
    rw [hom] at hB1
    simp only [Bool.and_eq_true] at hB1
    match hx : o.op, hB1.2.1.1.1 with
    | .extract x ix, _ =>
     rw [extract_quiet hx a' w'] at hmem
     exact absurd hmem (Array.not_mem_empty _)
end
theorem wp_region_relL {P : Program} {Q : Exit → Act → World → Prop} {id : Nat} {a : Act} {w : World} {l l' : List Oper} (E : List (Nat × Nat)) (n : Nat) (L : List (Nat × VP)) (R : World → World → Prop) (hm : P.follows .mixedOrders = true) (hl : lates E l = l') (hE : latesB E l = true)
  (hQ2 : ∀ t v c a w, Q (.panic c) (a.put (some t) v) w → Q (.panic c) a w)
  (hT : tailB l'.toArray n = true) (hB : relB l'.toArray (L.map (·.1)) = true)
  (hkn : L.all (fun p => decide (p.1 < n)) = true)
  (hrange : l'.all (fun o => match o.dst with | some d => decide (d < a.tmps.size) | none => true) = true)
  (hrefl : ∀ w, R w w) (htr : ∀ a b d, R a b → R b d → R a d) (hmono : ∀ p ∈ L, ∀ v w w', R w w' → p.2 v w → p.2 v w')
  (h : relWalk P l'.toArray R (fun _ a' w' => wpList P l'.toArray Q (l'.drop n) a' w') w.drew L 0 (l'.take n) a) : (Code.region id l.toArray true).wp P Q a w := by
 refine wp_region_any hm ?_
 have h1 := relT_wpAny n L R hT hB hkn hrange hrefl htr hmono h
 subst hl
 have hsz : (lates E l).toArray.size = l.toArray.size := by rw [List.size_toArray, List.size_toArray, lates_length]
 rw [hsz] at h1
 exact lates_any hQ2 E l hE _ _ _ _ (by simp) h1
end Go.Proofs.YtobjgebojhjhnaaDoor
