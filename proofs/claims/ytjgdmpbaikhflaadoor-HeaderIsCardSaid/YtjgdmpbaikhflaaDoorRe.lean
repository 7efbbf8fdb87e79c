/- florinref02: Write. -/
import Derived.Test.YtjgdmpbaikhflaaDoorPr18
import Derived.Test.YtjgdmpbaikhflaaDoorShWr
import Derived.Test.YtjgdmpbaikhflaaDoorPr7
namespace Go.Proofs.YtjgdmpbaikhflaaDoor
open Go.RowKit
attribute [local go_sem high] slB_lh slB_l slB_h nilB_eq
theorem Rd.setO {w w' : World} {A : Option Addr} {xs : List Value} (h : Rd w A xs) (hk : ∀ a, A = some a → w'.heap[a.block]? = w.heap[a.block]?) : Rd w' A xs := by
  rcases h with h | ⟨b, off, rfl, h⟩
  · exact .inl h
  · exact .inr ⟨b, off, rfl, fun j u hu => (World.cell?_of_block (a := ⟨b, off + j, none⟩) (hk ⟨b, off, none⟩ rfl)).trans (h j u hu)⟩
set_option maxRecDepth 10000 in
set_option maxHeartbeats 4000000 in
theorem WriteR (h : List W32) (hh : h.length = 8) (rs : List UInt8) (A : Option Addr) (n c : Nat) (hn : rs.length = n) (hn6 : n < 64) (N : Int) (h0 : 0 ≤ N) (h1 : N < 18446744073709551616) (h64 : N % 64 = n)
    (bs : List UInt8) (B : Option Addr) (m cb : Nat) (hm : bs.length = m) (hM : n + m ≤ 140737488355328) (w : World) (hq : Rd w A (rs.map bv)) (hr : Rd w B (bs.map bv)) :
    Calls Tryd.prog 68 #[.agg (stc h A n c N).toArray, .slice B m cb] w fun e w' =>
      ∃ A' c', e = .returned (.agg (stc (shFold ((n + m) / 64) h (rs ++ bs)) A' ((n + m) % 64) c' (IntKind.u64.wrap (N + IntKind.u64.wrap (m : Int)))).toArray) ∧ (n + m) % 64 ≤ c' ∧ Rd w' A' (((rs ++ bs).drop (64 * ((n + m) / 64))).map bv) ∧ Below w.heap.size w w' := by
  have hs := SaneR h hh A n c N h0 h1 (by omega) true (by simp [h64])
  obtain ⟨v0, v1, v2, v3, v4, v5, v6, v7, rfl⟩ := len8 hh
  clear hh
  obtain ⟨zs, hzs⟩ : ∃ zs : List Value, zs = stc (List.replicate 8 0) none 0 0 0 := ⟨_, rfl⟩
  have hz : #[Value.int IntKind.u32 0, Value.int IntKind.u32 0, Value.int IntKind.u32 0, Value.int IntKind.u32 0, Value.int IntKind.u32 0, Value.int IntKind.u32 0, Value.int IntKind.u32 0, Value.int IntKind.u32 0, Value.slice none 0 0, Value.int IntKind.u64 0] = zs.toArray := by
    rw [hzs, stc, List.map_replicate, wc, wn_zero]; rfl
  have hzl : zs.length = 10 := by rw [hzs]; rfl
  clear hzs
  obtain ⟨ss, hss⟩ : ∃ ss : List Value, ss = stc [v0, v1, v2, v3, v4, v5, v6, v7] A n c N := ⟨_, rfl⟩
  rw [← hss] at hs ⊢
  have hsl : ss.length = 10 := by rw [hss]; rfl
  replace hss := Lib.hid hss
  replace hzl := Lib.hid hzl
  replace hsl := Lib.hid hsl
  have hle1 : ([] : List UInt8).length + n ≤ 140737488355328 := by simp; omega
  have hle2 : rs.length + m ≤ 140737488355328 := by rw [hn]; omega
  have hn' := Lib.hid hn
  have hm' := Lib.hid hm
  clear hn hm
  go_enter Tryd.func68, Tryd.ntmps68
  have hb0 : Below w.heap.size w ((w.alloc (.cells ss.toArray 101)).alloc (.cells zs.toArray 101)) := ((Below.refl _ _).alloc (Nat.le_refl _) _).alloc (by simp) _
  have ha2 : Av ((w.alloc (.cells ss.toArray 101)).alloc (.cells zs.toArray 101)) w.heap.size 101 ss := heap_alloc2_old _ _ _
  have ha4 : Av ((w.alloc (.cells ss.toArray 101)).alloc (.cells zs.toArray 101)) (w.heap.size + 1) 101 zs := heap_alloc2_new _ _ _
  go_wp2_with (refine wpList_loadAv ha2 rfl _ _ rfl rfl _ 10 hsl.out Tryd.underlying101 rfl (by kernel_rfl) ?_)
  generalize (w.alloc (.cells ss.toArray 101)).alloc (.cells zs.toArray 101) = w0 at *
  refine (hs w0).mono ?_
  rintro e w1 ⟨rfl, b1⟩
  replace ha2 := ha2.below b1
  replace ha4 := ha4.below b1
  replace b1 := hb0.trans (b1.mono hb0.size)
  clear hb0 hs hz
  have q4 := Lib.hid ha4.lt
  have hmade := OwnB.made w1 w1.heap.size (Nat.le_refl _) #[] 0 (by simp only [maxLen]; omega) rfl
  have hbm := (Below.refl w1.heap.size w1).alloc (Nat.le_refl _) (.cells #[] 5)
  have hrm := (hq.below b1).below hbm
  have c8 := (ha2.alloc (.cells #[] 5)).cell 8 (.slice A n c) (by rw [hss.out]; rfl)
  go_wp2_with (first
    | (at_builtin
       refine wpList_appB hmade hbm hbm.size n c hrm hn'.out hle1 rfl (.tmp 11) (.tmp 13) rfl rfl rfl ?_
       intro y3 w3 hown hb3 hz3 hg3
       rw [List.nil_append] at hown
       clear hmade hbm hrm c8
       have hsm := (hr.below b1).below hb3)
    | (at_builtin
       refine wpList_appB hown hb3 hb3.size m cb hsm hm'.out hle2 rfl (.tmp 15) (.tmp 16) rfl rfl rfl ?_
       intro v4 w4 hown4 hb4 hz4 hg4
       obtain ⟨A4, c4, rfl, hc4, _⟩ := hown4.formN (n + m) (by rw [List.length_append, hn'.out, hm'.out])
       replace ha2 := ha2.below hb4
       replace ha4 := ha4.below hb4
       have r2 : w4.rangeAt w.heap.size 0 [wc v0, wc v1, wc v2, wc v3, wc v4, wc v5, wc v6, wc v7] := Av.rangeAt (pre := []) (rest := [.slice A n c, .int .u64 N]) (by rw [hss.out] at ha2; exact ha2) 0 rfl
       have b4 := b1.trans (hb4.mono b1.size)
       clear hown hb3 hsm hg3 hg4 hb4)
    | refine wpList_load_mid rfl _ _ rfl _ _ rfl _ _ r2 Tryd.underlying73 rfl (by kernel_rfl) ?_
    | (refine wpList_storeAr ((Below.refl w4.heap.size w4).alloc (Nat.le_refl _) _) (heap_alloc_new _ _) (Nat.le_refl _) rfl _ _ _ rfl rfl [v0, v1, v2, v3, v4, v5, v6, v7] rfl 8 rfl (by kernel_rfl) rfl ?_
       intro w5 a5 b5 k5 z5
       replace ha2 := ha2.below b5
       replace ha4 := ha4.below b5
       clear r2))
  obtain ⟨M, hMm⟩ : ∃ M, M = n + m := ⟨_, rfl⟩
  rw [← hMm] at hown4 hc4 hM
  obtain ⟨L, hL⟩ : ∃ L, L = rs ++ bs := ⟨_, rfl⟩
  have hLl : L.length = M := by rw [hL, List.length_append, hn'.out, hm'.out, hMm]
  rw [← hL] at hown4
  have hr5 : Rd w5 A4 (L.map bv) := hown4.rd.below b5
  have bw5 := b4.trans (b5.mono b4.size)
  have q6 : w4.heap.size < w5.heap.size := by rw [z5]; simp
  obtain ⟨g, hg⟩ : ∃ g, g = w4.heap.size := ⟨_, rfl⟩
  have hwg : w.heap.size + 1 < g := by rw [hg]; have := q4.out; simp at hz3; omega
  rw [← hg] at a5 q6 ⊢
  have hr4 : Rd w4 A4 (L.map bv) := hown4.rd
  have hB4 := b4
  have hbk : ∀ a, A4 = some a → w.heap.size + 1 < a.block := fun a ha => by
    subst ha; have := (hown4.lt a.block rfl).1; have := q4.out; omega
  clear hown4 hr5 k5 z5 hz3 hz4 hle1 hle2 q4 b4
  obtain ⟨hv, hhv⟩ : ∃ l, l = [v0, v1, v2, v3, v4, v5, v6, v7] := ⟨_, rfl⟩
  have hvl : hv.length = 8 := by rw [hhv]; rfl
  rw [← hhv] at a5
  replace hhv := Lib.hid hhv
  replace hL := Lib.hid hL
  replace hLl := Lib.hid hLl
  replace hMm := Lib.hid hMm
  replace hg := Lib.hid hg
  dsimp only [Act.put]
  go_loopw [5] (fun b wr => ∃ (k : Nat) (A' : Option Addr) (c' : Nat), 64 * k ≤ M ∧ b = .slice A' (M - 64 * k) c' ∧ M - 64 * k ≤ c' ∧ Rd w4 A' ((L.drop (64 * k)).map bv) ∧ (∀ a, A' = some a → w.heap.size + 1 < a.block) ∧ Below w4.heap.size w4 wr ∧ Below w.heap.size w wr ∧ Ar wr g 73 (shFold k hv L) ∧ Av wr w.heap.size 101 ss ∧ Av wr (w.heap.size + 1) 101 zs) (fun b _ => sliceLen b)
  case atStart => exact ⟨0, A4, c4, by omega, by rw [Nat.mul_zero, Nat.sub_zero, hMm.out], hc4, by simpa using hr4, hbk, b5, bw5, a5, ha2, ha4⟩
  case round =>
    clear a5 ha2 ha4 b5 bw5 hr4 hc4
    obtain ⟨k, A', c', hk, rfl, hc', hr', hbA, hb4, hb, a5, a2, a4⟩ := hrel
    by_cases hk64 : 64 ≤ M - 64 * k
    · have t1 : decide ((64 : Int) ≤ ((M - 64 * k : Nat) : Int)) = true := by simp; omega
      obtain ⟨hk', hhk⟩ : ∃ l, l = shFold k hv L := ⟨_, rfl⟩
      have hkl : hk'.length = 8 := by rw [hhk, shFold_length _ _ _ hvl]
      rw [← hhk] at a5
      replace hhk := Lib.hid hhk
      obtain ⟨u0, u1, u2, u3, u4', u5, u6', u7', rfl⟩ := len8 hkl
      have c0 : wr.cell? ⟨g, 0, none⟩ = some (wc u0) := a5.cell 0 (by simp)
      have c1 : wr.cell? ⟨g, 1, none⟩ = some (wc u1) := a5.cell 1 (by simp)
      have c2 : wr.cell? ⟨g, 2, none⟩ = some (wc u2) := a5.cell 2 (by simp)
      have c3 : wr.cell? ⟨g, 3, none⟩ = some (wc u3) := a5.cell 3 (by simp)
      have c4 : wr.cell? ⟨g, 4, none⟩ = some (wc u4') := a5.cell 4 (by simp)
      have c5 : wr.cell? ⟨g, 5, none⟩ = some (wc u5) := a5.cell 5 (by simp)
      have c6 : wr.cell? ⟨g, 6, none⟩ = some (wc u6') := a5.cell 6 (by simp)
      have c7 : wr.cell? ⟨g, 7, none⟩ = some (wc u7') := a5.cell 7 (by simp)
      have s1 : (0 : Int) ≤ 64 := by decide
      have s2 : (64 : Int) ≤ (c' : Int) := by omega
      go_wp2
      go_still_tail 3, (by kernel_rfl)
      change wpList _ _ _ _ _ (World.drew _)
      clear c0 c1 c2 c3 c4 c5 c6 c7
      replace hb4 := hb4.drew
      replace hb := hb.drew
      replace a5 := a5.drew
      replace a4 := a4.drew
      replace a2 := a2.drew
      have hr64 : Rd wr.drew A' ((((L.drop (64 * k)).take 64)).map bv) := by rw [List.map_take]; exact (Rd.take hr' 64).below hb4
      generalize World.drew wr = wd at *
      have HB := BlockR [u0, u1, u2, u3, u4', u5, u6', u7'] rfl ((L.drop (64 * k)).take 64) A' c' (by have := hLl.out; simp; omega) wd hr64
      obtain ⟨hx, hhx⟩ : ∃ l, l = shBlock [u0, u1, u2, u3, u4', u5, u6', u7'] ((L.drop (64 * k)).take 64) := ⟨_, rfl⟩
      have hxl : hx.length = 8 := by rw [hhx]; exact shBlock_length _ _ rfl
      rw [← hhx] at HB
      replace hhx := Lib.hid hhx
      replace hxl := Lib.hid hxl
      replace HB := Lib.hid HB
      go_wp2_with fail
      refine HB.out.mono ?_
      rintro e w6 ⟨rfl, b6⟩
      replace a5 := a5.below b6
      replace a4 := a4.below b6
      replace a2 := a2.below b6
      replace hb := hb.trans (b6.mono hb.size)
      replace hb4 := hb4.trans (b6.mono hb4.size)
      clear HB hr64 b6
      have hgg : w4.heap.size ≤ g := by rw [hg.out]; exact Nat.le_refl _
      go_wp2_with (refine wpList_storeAr hb4 a5 hgg rfl _ _ _ rfl rfl hx rfl 8 hxl.out (by kernel_rfl) rfl ?_
                   intro w7 a7 b7 k7 z7)
      have bw7 : Below w.heap.size w w7 := hB4.trans (b7.mono hB4.size)
      refine ⟨⟨k + 1, _, _, by omega, by rw [show M - 64 * (k + 1) = M - 64 * k - 64 by omega], by omega, ?_, ?_, b7, bw7, ?_, a2.same (k7 _ (by omega)), a4.same (k7 _ (by omega))⟩, ?_⟩
      · have := Rd.sub64 hr' c' (by have := hLl.out; simp; omega)
        rw [← List.map_drop, List.drop_drop] at this
        rw [show 64 * (k + 1) = 64 * k + 64 by omega]
        exact this
      · intro a ha
        split at ha
        · exact hbA a ha
        · obtain ⟨a0, h0, rfl⟩ := Option.map_eq_some_iff.1 ha
          exact hbA a0 h0
      · rw [shFold_snoc, ← hhk.out, ← hhx.out]; exact a7
      · simp only [sliceLen]; omega
    · have t1 : decide ((64 : Int) ≤ ((M - 64 * k : Nat) : Int)) = false := by simp; omega
      obtain ⟨hx, hhx⟩ : ∃ l, l = shFold k hv L := ⟨_, rfl⟩
      have hxl : hx.length = 8 := by rw [hhx, shFold_length _ _ _ hvl]
      rw [← hhx] at a5
      replace hhx := Lib.hid hhx
      obtain ⟨u0, u1, u2, u3, u4', u5, u6', u7', rfl⟩ := len8 hxl
      have c0 : wr.cell? ⟨g, 0, none⟩ = some (wc u0) := a5.cell 0 (by simp)
      have c1 : wr.cell? ⟨g, 1, none⟩ = some (wc u1) := a5.cell 1 (by simp)
      have c2 : wr.cell? ⟨g, 2, none⟩ = some (wc u2) := a5.cell 2 (by simp)
      have c3 : wr.cell? ⟨g, 3, none⟩ = some (wc u3) := a5.cell 3 (by simp)
      have c4 : wr.cell? ⟨g, 4, none⟩ = some (wc u4') := a5.cell 4 (by simp)
      have c5 : wr.cell? ⟨g, 5, none⟩ = some (wc u5) := a5.cell 5 (by simp)
      have c6 : wr.cell? ⟨g, 6, none⟩ = some (wc u6') := a5.cell 6 (by simp)
      have c7 : wr.cell? ⟨g, 7, none⟩ = some (wc u7') := a5.cell 7 (by simp)
      have c9 : wr.cell? ⟨w.heap.size, 9, none⟩ = some (.int .u64 N) := a2.cell 9 _ (by rw [hss.out]; rfl)
      obtain ⟨N2, hN2⟩ : ∃ n : Int, n = IntKind.u64.wrap (N + IntKind.u64.wrap (m : Int)) := ⟨_, rfl⟩
      have hN3 := hN2.symm
      replace hN2 := Lib.hid hN2
      have hw1 : w.heap.size ≤ w.heap.size + 1 := by omega
      have hz10 : zs.toArray.size = 10 := by rw [List.size_toArray, hzl.out]
      go_wp2_with (first
        | ((with_reducible refine wpList_storeFA 101 hb a4 hw1 (stc [u0, u1, u2, u3, u4', u5, u6', u7'] A' (M - 64 * k) c' N2) ?_ ?_ 10 ?_ ?_ ?_ ?_ ?_); rfl; rfl; rfl; kernel_rfl; exact hzl.out; rfl; intro w6 a9 b6 k6 z6))
      have hk1 : k = M / 64 := by omega
      have hk2 : M - 64 * k = M % 64 := by omega
      refine bodyPost_ret (results_cell_row rfl _ _ (w.heap.size + 1) _ _ (0, 0) _ rfl a9 Tryd.underlying101 rfl (by kernel_rfl)) rfl ⟨A', c', ?_, by rw [← hMm.out]; omega, ?_, b6⟩
      · rw [← hMm.out, ← hL.out, ← hk1, ← hk2, hhx.out, hN2.out, hhv.out]
      · rw [← hMm.out, ← hL.out, ← hk1]
        exact (hr'.below hb4).setO fun a ha => k6 _ (by have := hbA a ha; omega)
end Go.Proofs.YtjgdmpbaikhflaaDoor
