/- florinlaw10.MerkleDoubled: the walk. -/
import Derived.Test.YtngindljhlbglaaDoorAw0
namespace Go.Proofs.YtngindljhlbglaaDoor
open Go.RowKit

theorem wpList_execW {P : Program} {ops : Array Oper} {rest : List Oper} {o : Oper} {a : Act} {w w' : World} {Q : Exit → Act → World → Prop} {v : Value} (hw : Region.wanted o (yielded ops a.tmps) = true) (h : (execOp a.eval o).run P w = .ok (.value v) w') (k : wpList P ops Q rest (a.put o.dst v) w') : wpList P ops Q (o :: rest) a w := by
  unfold wpList
  rw [if_pos hw]
  refine .inl ?_
  unfold Oper.wp
  rw [h]
  exact k
theorem mUp_doubled : ∀ (l : List (List UInt8)), l.length % 2 = 1 → mUp (l ++ [l.getD (l.length - 1) []]) = mUp l
  | [], h => by simp at h
  | [x], _ => by simp [mUp]
  | [x, y], h => by simp at h
  | x :: y :: z :: r, h => by
    have ih := mUp_doubled (z :: r) (by simp at h ⊢; omega)
    have e : (x :: y :: z :: r).getD ((x :: y :: z :: r).length - 1) [] = (z :: r).getD ((z :: r).length - 1) [] := by
      simp only [List.length_cons, Nat.add_sub_cancel]
      rfl
    rw [e, List.cons_append, List.cons_append, mUp, ih]
    rfl
theorem mAlike1_doubled : ∀ (l : List (List UInt8)), l.length % 2 = 1 → mAlike1 (l ++ [l.getD (l.length - 1) []]) = true
  | [], h => by simp at h
  | [x], _ => by simp [mAlike1]
  | [x, y], h => by simp at h
  | x :: y :: z :: r, h => by
    have ih := mAlike1_doubled (z :: r) (by simp at h ⊢; omega)
    have e : (x :: y :: z :: r).getD ((x :: y :: z :: r).length - 1) [] = (z :: r).getD ((z :: r).length - 1) [] := by
      simp only [List.length_cons, Nat.add_sub_cancel]
      rfl
    rw [e, List.cons_append, List.cons_append, mAlike1, ih, Bool.or_true]
theorem mLv_cons (l : List (List UInt8)) (h1 : 1 < l.length) (h2 : l.length ≤ 4096) : mLv l = l :: mLvF 11 (mUp l) := by
  rw [mLv, if_neg (by omega), mLvF, if_neg (by omega)]
theorem mLvF_ne (f : Nat) (l : List (List UInt8)) : mLvF f l ≠ [] := by
  cases f with
  | zero => simp [mLvF]
  | succ f => rw [mLvF]; split <;> simp
theorem mRootOf_cons (x : List (List UInt8)) (ls : List (List (List UInt8))) (h : ls ≠ []) : mRootOf (x :: ls) = mRootOf ls := by
  unfold mRootOf
  rw [List.getLast?_cons]
  cases hg : ls.getLast? with
  | none => exact absurd (List.getLast?_eq_none_iff.1 hg) h
  | some y => rfl
theorem doubled_law (l : List (List UInt8)) (h1 : 1 < l.length) (h2 : l.length ≤ 40) (ho : l.length % 2 = 1) :
    mRootOf (mLv (l ++ [l.getD (l.length - 1) []])) = mRootOf (mLv l) ∧ mAlike (mLv (l ++ [l.getD (l.length - 1) []])) = true := by
  rw [mLv_cons l h1 (by omega), mLv_cons (l ++ _) (by simp; omega) (by simp; omega), mUp_doubled l ho]
  refine ⟨?_, ?_⟩
  · rw [mRootOf_cons _ _ (mLvF_ne _ _), mRootOf_cons _ _ (mLvF_ne _ _)]
  · rw [mAlike, List.any_cons, mAlike1_doubled l ho, Bool.true_or]

set_option maxRecDepth 10000 in
set_option maxHeartbeats 1000000 in
theorem doubled_early (n : Nat) (h : 40 < n ∨ n % 2 = 0 ∨ n < 2) (A : Option Addr) (c : Nat) (w : World) (ht : Tabs w) :
    Calls Tryd.prog 3 #[.slice A n c] w fun e w' => e = .returned (.bool true) ∧ Below w.heap.size w w' := by
  have HA := Lib.hid (awake10 w ht)
  by_cases h40 : 40 < n
  · have t1 : decide ((40 : Int) < (n : Int)) = true := by simp; omega
    go_enter Tryd.func3, Tryd.ntmps3
    go_wp2_with (go_at_call 9; refine (HA.out).mono ?_; rintro e w1 ⟨rfl, b1⟩)
    go_ret
    exact ⟨rfl, b1⟩
  · have t1 : decide ((40 : Int) < (n : Int)) = false := by simp; omega
    by_cases h2 : n % 2 = 0
    · have t2 : (((n : Int) % 2) == 0) = true := by simp; omega
      have t3 : (((n : Int).tmod 2) == 0) = true := by simp [Int.tmod_eq_emod_of_nonneg]; omega
      go_enter Tryd.func3, Tryd.ntmps3
      go_wp2_with (go_at_call 9; refine (HA.out).mono ?_; rintro e w1 ⟨rfl, b1⟩)
      go_ret
      exact ⟨rfl, b1⟩
    · have t2 : (((n : Int) % 2) == 0) = false := by simp; omega
      have t3 : (((n : Int).tmod 2) == 0) = false := by simp [Int.tmod_eq_emod_of_nonneg]; omega
      have t4 : decide ((n : Int) < 2) = true := by simp; omega
      go_enter Tryd.func3, Tryd.ntmps3
      go_wp2_with (go_at_call 9; refine (HA.out).mono ?_; rintro e w1 ⟨rfl, b1⟩)
      go_ret
      exact ⟨rfl, b1⟩

set_option maxRecDepth 10000 in
set_option maxHeartbeats 1000000 in
theorem doubled_ok (l : List (List UInt8)) (h32 : All32 l) (n : Nat) (hn : l.length = n) (h1 : 1 < n) (h2 : n ≤ 40) (ho : n % 2 = 1) (A : Option Addr) (c : Nat) (w : World) (hr : Rd w A (hcl l)) (ht : Tabs w) :
    Calls Tryd.prog 3 #[.slice A n c] w fun e w' => e = .returned (.bool true) ∧ Below w.heap.size w w' := by
  have hz := zeros_32
  have hzl : (List.replicate 32 (0 : UInt8)).length = 32 := by simp
  obtain ⟨zs, hzs⟩ : ∃ zs : List UInt8, zs = List.replicate 32 0 := ⟨_, rfl⟩
  rw [← hzs] at hz hzl
  clear hzs
  replace hzl := Lib.hid hzl
  obtain ⟨hq1, hq2⟩ := doubled_law l (by omega) (by omega) (by rw [hn]; exact ho)
  have hrl := mRootOf_length l h32 (mLv l).length
  rw [List.take_of_length_le (Nat.le_refl _)] at hrl
  obtain ⟨x, hx⟩ : ∃ x, x = l.getD (n - 1) [] := ⟨_, rfl⟩
  have hx32 : x.length = 32 := by rw [hx]; exact h32.get _ (by omega)
  have hm32 : All32 (l ++ [x]) := h32.append (All32.one hx32)
  rw [hn, ← hx] at hq1 hq2
  have R1 := Root l h32
  have R2 := Root (l ++ [x]) hm32
  rw [hq1, hq2] at R2
  generalize mAlike (mLv l) = al at R1
  generalize mRootOf (mLv l) = r at R1 R2 hrl
  clear hq1 hq2
  obtain ⟨bb, off, rfl⟩ := hr.someA (hcl_ne h32 (by omega))
  have hrx := Lib.hid (fun w' (hE : Below w.heap.size w w') => hx ▸ (hr.below hE).hash h32 (n - 1) (by omega))
  have HA := Lib.hid (awake10 w ht)
  have heq : ∀ w, (binOp .eql 25 (.agg (hcs r)) (.agg (hcs r))).run Tryd.prog w = .ok (.bool true) w := fun w => by
    rw [eqlH r r hrl hrl, beq_self_eq_true]
  have t1 : decide ((40 : Int) < (n : Int)) = false := by simp; omega
  have t2 : (((n : Int) % 2) == 0) = false := by simp; omega
  have t3 : (((n : Int).tmod 2) == 0) = false := by simp [Int.tmod_eq_emod_of_nonneg]; omega
  have t4 : decide ((n : Int) < 2) = false := by simp; omega
  have t5 : IntKind.i64.wrap ((n : Int) - 1) = ((n - 1 : Nat) : Int) := by rw [IntKind.wrap_i64]; omega
  obtain ⟨k, hk⟩ : ∃ k, n - 1 = k := ⟨_, rfl⟩
  rw [hk] at hrx t5
  have t6 : (0 : Int) ≤ (k : Int) := by omega
  have t7 : (k : Int) < (n : Int) := by omega
  replace hn := Lib.hid hn
  replace hrl := Lib.hid hrl
  replace hx := Lib.hid hx
  replace hk := Lib.hid hk
  replace R1 := Lib.hid R1
  replace R2 := Lib.hid R2
  have hle1 : (0 + n) * 32 ≤ 140737488355328 := by omega
  have hle2 : (n + 1) * 32 ≤ 140737488355328 := by omega
  go_enter Tryd.func3, Tryd.ntmps3
  go_wp2_with (go_at_call 9; refine (HA.out).mono ?_; rintro e w1 ⟨rfl, b1⟩)
  refine (R1.out (some ⟨bb, off, none⟩) n c hn.out (by omega) w1 (hr.below b1) (ht.below b1)).mono ?_
  rintro e w2 ⟨rfl, b2⟩
  replace b2 := b1.trans (b2.mono b1.size)
  clear b1
  go_upto_region 6 with (refine wpList_storeAv (b2.alloc b2.size _) (heap_alloc_new _ _) b2.size rfl _ _ _ rfl rfl (r.map bv) rfl 32 (by rw [List.length_map, hrl.out]) (by kernel_rfl) (by rw [List.size_toArray, List.length_map]; exact hzl.out) (by simp [Value.oneCell']) ?_; intro w3 a3 b3 k3 s3; replace s3 := Lib.hid s3; clear k3)
  have hmade : (w3.alloc (.cells #[] 25)).ownsRow w3.heap.size 25 32 (.slice (some ⟨w3.heap.size, 0, none⟩) 0 0) 0 (hcl []) := World.ownsRow_made w3 #[] 0 (Nat.le_refl _) (by simp [maxLen]) rfl
  have hb3 := (Below.refl w3.heap.size w3).alloc (Nat.le_refl _) (.cells #[] 25)
  have hr3 := (hr.below b3).below hb3
  go_upto_region 7 with (at_builtin; refine wpList_appH hmade hb3 hb3.size h32 n c hr3 hn.out hle1 rfl (.tmp 30) (.tmp 31) rfl rfl rfl ?_; intro v4 w4 own4 bo4 z4 _ _)
  rw [List.nil_append, Nat.zero_add] at own4
  have b4 := b3.trans (bo4.mono b3.size)
  replace a3 := a3.below bo4
  clear hmade hb3 hr3
  have hrx4 := hrx.out w4 b4
  have hb5 := (Below.refl w4.heap.size w4).alloc (Nat.le_refl _) (.cells (hcl [x]).toArray 25)
  have hr5 : Rd (w4.alloc (.cells (hcl [x]).toArray 25)) (some ⟨w4.heap.size, 0, none⟩) (hcl [x]) := Av.rd (t := 25) (heap_alloc_new _ _)
  have own5 := own_below own4 hb5
  have b5 := b4.alloc b4.size (.cells (hcl [x]).toArray 25)
  replace bo4 := bo4.alloc bo4.size (.cells (hcl [x]).toArray 25)
  replace a3 := a3.alloc (.cells (hcl [x]).toArray 25)
  have q3 := Lib.hid a3.lt
  go_wp2_with (first
    | (refine wpList_load_mid rfl _ _ rfl bb (off + k * 32) rfl (x.map bv) _ hrx4 Tryd.underlying25 rfl (by rw [List.length_map, hx32]; kernel_rfl) ?_)
    | (refine wpList_buildH rfl [x] (All32.one hx32) 1 rfl (by omega) (by omega) _ rfl rfl ?_)
    | (at_builtin
       refine wpList_appH own5 bo4 bo4.size (All32.one hx32) 1 1 hr5 rfl hle2 rfl (.tmp 33) (.tmp 39) rfl rfl rfl ?_
       intro v6 w6 own6 bo6 z6 gr6 _
       obtain ⟨A6, c6, rfl, hc6, _⟩ := own_form own6
       have qq := q3.out
       have own5lt := fun k hk => (World.ownsRow.lt own5 k hk).1
       have b6 := b3.trans (bo6.mono b3.size)
       replace a3 := a3.same (gr6.block _ a3.lt (fun e => by have := own5lt _ e.symm; have := s3.out; simp at this; omega)))
    )
  refine (R2.out A6 (n + 1) c6 (by rw [List.length_append, hn.out]; rfl) (by omega) w6 (own_rd own6) (ht.below b6)).mono ?_
  rintro e w7 ⟨rfl, b7⟩
  replace a3 := a3.below b7
  replace b7 := b6.trans (b7.mono b6.size)
  clear own6 own5 own4 hr5 hb5 hrx4 b6 b5 b4 bo4 bo6
  go_upto_region 9 with (refine wpList_storeAv (b7.alloc b7.size _) (heap_alloc_new _ _) b7.size rfl _ _ _ rfl rfl (r.map bv) rfl 32 (by rw [List.length_map, hrl.out]) (by kernel_rfl) (by rw [List.size_toArray, List.length_map]; exact hzl.out) (by simp [Value.oneCell']) ?_; intro w8 a8 b8 k8 s8; replace s8 := Lib.hid s8)
  replace a3 := (a3.alloc (.cells (zs.map bv).toArray 25)).same (k8 _ (Nat.ne_of_lt a3.lt))
  clear k8
  go_wp2_with (first
    | (refine wpList_execW rfl (exec_loadAv a3 _ _ rfl rfl _ 32 (by rw [List.length_map, hrl.out]) Tryd.underlying25 rfl (by kernel_rfl)) ?_)
    | (refine wpList_execW rfl (exec_loadAv a8 _ _ rfl rfl _ 32 (by rw [List.length_map, hrl.out]) Tryd.underlying25 rfl (by kernel_rfl)) ?_))
  go_ret
  exact ⟨rfl, b8⟩
end Go.Proofs.YtngindljhlbglaaDoor
