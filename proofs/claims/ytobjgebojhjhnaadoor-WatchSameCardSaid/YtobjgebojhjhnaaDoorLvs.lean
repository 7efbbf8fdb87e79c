import Derived.Test.YtobjgebojhjhnaaDoorQr16
namespace Go.Proofs.YtobjgebojhjhnaaDoor
open Go.RowKit Go.Shelf
attribute [local go_sem] Oper.semAt_some
def scl (ps : List (Option Addr × Nat)) (ls : List (List (List UInt8))) : List Value := List.zipWith (fun (p : Option Addr × Nat) (x : List (List UInt8)) => Value.slice p.1 x.length p.2) ps ls
def LvAt (w : World) (ps : List (Option Addr × Nat)) (ls : List (List (List UInt8))) : Prop :=
 ps.length = ls.length ∧ ∀ (i : Nat) (p : Option Addr × Nat) (x : List (List UInt8)), ps[i]? = some p → ls[i]? = some x → Rd w p.1 (hcl x) ∧ x.length ≤ p.2
theorem scl_snoc (ps : List (Option Addr × Nat)) (ls : List (List (List UInt8))) (h : ps.length = ls.length) (A : Option Addr) (c : Nat) (x : List (List UInt8)) : scl (ps ++ [(A, c)]) (ls ++ [x]) = scl ps ls ++ [.slice A x.length c] := by
 rw [scl, scl, List.zipWith_append h]; rfl
theorem LvAt.keep {w w' : World} {ps : List (Option Addr × Nat)} {ls : List (List (List UInt8))} (h : LvAt w ps ls) (hk : ∀ p ∈ ps, ∀ xs, Rd w p.1 xs → Rd w' p.1 xs) : LvAt w' ps ls :=
 ⟨h.1, fun i p x hp hx => ⟨hk p (List.mem_of_getElem? hp) _ (h.2 i p x hp hx).1, (h.2 i p x hp hx).2⟩⟩
theorem LvAt.below {w w' : World} {ps : List (Option Addr × Nat)} {ls : List (List (List UInt8))} (h : LvAt w ps ls) (hb : Below w.heap.size w w') : LvAt w' ps ls :=
 h.keep fun _ _ _ hr => hr.below hb
theorem LvAt.snoc {w : World} {ps : List (Option Addr × Nat)} {ls : List (List (List UInt8))} (h : LvAt w ps ls) {A : Option Addr} {c : Nat} {x : List (List UInt8)} (hr : Rd w A (hcl x)) (hc : x.length ≤ c) : LvAt w (ps ++ [(A, c)]) (ls ++ [x]) := by
 refine ⟨by simp [h.1], fun i p y hp hy => ?_⟩
 rcases Nat.lt_or_ge i ps.length with hi | hi
 ·rw [List.getElem?_append_left hi] at hp
  rw [List.getElem?_append_left (by rw [← h.1]; exact hi)] at hy
  exact h.2 i p y hp hy
 ·rw [List.getElem?_append_right hi] at hp
  rw [List.getElem?_append_right (by rw [← h.1]; exact hi)] at hy
  obtain ⟨hi0, rfl⟩ : i - ps.length = 0 ∧ (A, c) = p := by
   cases hk : i - ps.length with
   | zero => rw [hk] at hp; exact ⟨rfl, by simpa using hp⟩
   | succ k => rw [hk] at hp; simp at hp
  rw [← h.1, hi0] at hy
  obtain rfl : x = y := by simpa using hy
  exact ⟨hr, hc⟩
theorem Rd.grownOther {W W' : World} {A : Option Addr} {xs : List Value} {row : Option Nat} (h : Rd W A xs) (hg : W.grownBy W' row) (hne : ∀ a, A = some a → row ≠ some a.block) : Rd W' A xs := by
 rcases h with h | ⟨b, off, hA, hc⟩
 ·exact .inl h
 ·exact .inr ⟨b, off, hA, fun j u hu => (World.cell?_of_block (a := ⟨b, off + j, none⟩) (hg.block b (World.block_lt_of_cell? W _ (hc j u hu)) (fun e => hne _ hA e.symm))).trans (hc j u hu)⟩
theorem Rd.setOther' {w : World} {A : Option Addr} {xs : List Value} (h : Rd w A xs) (a : Addr) (v : Value) (hne : ∀ a', A = some a' → a.block ≠ a'.block) : Rd (w.setCell a v) A xs := by
 rcases h with h | ⟨b', off', hA, hc⟩
 ·exact .inl h
 ·exact .inr ⟨_, _, hA, fun j u hu => (World.cell?_of_block (heap_setCell_other w a b' v (Ne.symm (hne _ hA)))).trans (hc j u hu)⟩
theorem info_hs : (Tryd.prog.info? 23).map (fun i => (i.zero, i.size, i.bytes)) = some (some (.slice none 0 0), 1, 24) := by kernel_rfl
set_option maxRecDepth 10000 in
set_option maxHeartbeats 2000000 in
theorem Levels (l : List (List UInt8)) (h32 : All32 l) (A0 : Option Addr) (m c0 : Nat) (hm : l.length = m) (w : World) (hr : Rd w A0 (hcl l)) (ht : Tabs w) :
  Calls Tryd.prog 54 #[.slice A0 m c0] w fun e w' => ∃ v ps, e = .returned v ∧ w'.ownsRow w.heap.size 23 1 v (mLv l).length (scl ps (mLv l)) ∧ LvAt w' ps (mLv l) ∧ (∀ p ∈ ps, ∀ a, p.1 = some a → v.ownBlock ≠ some a.block) ∧ Below w.heap.size w w' := by
 replace hm := Lib.hid hm
 obtain ⟨i0, hi0, hz0, hz1, hz2⟩ := info_parts info_hs
 refine (callsIn_wide (n := 5)).1 ?_
 refine callsIn_of_wp_marks Tryd.func54 rfl trivial ?_ rfl
 simp only [Tryd.ntmps54, List.size_toArray, List.length_cons, List.length_nil, Nat.reduceAdd, Nat.reduceSub, Array.replicate_succ, Array.replicate_zero, List.push_toArray, List.append_toArray, List.nil_append, List.cons_append]
 refine wpIn_wide.2 ?_
 go_wp2_with (go_at_call 53; refine (levels A0 m c0 _).mono ?_; rintro e w1 ⟨rfl, rfl⟩)
 obtain ⟨W0, hW0⟩ : ∃ W0, W0 = (w.alloc (.cells #[.slice none 0 0] 147)).alloc (.cells #[.slice A0 m c0] 23) := ⟨_, rfl⟩
 have e : ∀ (v : World) (o : Obj), (v.alloc o).heap.size = v.heap.size + 1 := fun v o => by simp
 have hsz : W0.heap.size = w.heap.size + 2 := by rw [hW0, e, e]
 have hB0 : Below w.heap.size w W0 := by rw [hW0]; exact ((Below.refl _ _).alloc (Nat.le_refl _) _).alloc (by simp) _
 have hA0 : Av W0 w.heap.size 147 [.slice none 0 0] := by rw [hW0]; exact heap_alloc2_old _ _ _
 have hcb : W0.cell? ⟨w.heap.size + 1, 0, none⟩ = some (.slice A0 m c0) := by
  have := heap_alloc_new (w.alloc (.cells #[.slice none 0 0] 147)) (.cells #[.slice A0 m c0] 23)
  rw [← hW0, e] at this
  exact Av.cell (l := [.slice A0 m c0]) this 0 _ rfl
 rw [← hW0]
 clear hW0
 have hl13 : (mLv l).length ≤ 13 := mLv_len l
 refine wpIn_wide.1 (wpIn_rangeFunc_lv (n := 5) (by omega) (gf := 77) (lb := #[.pointer (some ⟨w.heap.size + 1, 0, none⟩)]) rfl (enters_of Tryd.func77 (by kernel_rfl) rfl)
  (levels1_in 4 (by omega) l h32 A0 m c0 hm.out (w.heap.size + 1) W0 hcb (hr.below hB0) (by omega)) rfl
  (fun j b W => ∃ v ps, Av W w.heap.size 147 [v] ∧ W.ownsRow (w.heap.size + 2) 23 1 v ((mLv l).take j).length (scl ps ((mLv l).take j)) ∧ LvAt W ps ((mLv l).take j) ∧ (∀ p ∈ ps, ∀ a, p.1 = some a → v.ownBlock ≠ some a.block ∧ w.heap.size + 2 ≤ a.block) ∧ (∀ k, v.ownBlock = some k → k < b) ∧ Below w.heap.size w W ∧ w.heap.size + 2 ≤ b)
  ?hI (fun j b W h => by obtain ⟨v, ps, h⟩ := h; exact ht.below h.2.2.2.2.2.1) ?h0 (fun v => { tmps := #[.slice A0 m c0, undef, .slice none 0 0, .pointer (some ⟨w.heap.size, 0, none⟩), v, .slice A0 m c0, .func (.func 77) #[] #[.pointer (some ⟨w.heap.size + 1, 0, none⟩)], v, undef, undef, undef, undef, undef], defers := [] }) ?assign ?body ?done)
 case hI =>
  rintro j b W W' row ⟨v, ps, i1, i2, i3, i4, i5, i6, i7⟩ hg hrow
  have hrow' : ∀ r, row = some r → ∃ o : Obj, W.heap[r]? = some o ∧ o.isCells = false := fun r e => (hrow r e).2
  refine ⟨v, ps, i1.grown hg hrow', i2.kept hg ?_, i3.keep fun p _ xs h => h.grown hg hrow', i4, i5, i6.grown hg i6.size (fun k e => by have := (hrow k e).1; omega), i7⟩
  rcases i2.2 with ⟨rfl, _⟩ | ⟨g, cap, cur, rfl, _, hgb, _⟩
  ·exact .inl rfl
  ·refine .inr fun e' => ?_
   obtain ⟨o, ho, hc⟩ := hrow' g e'.symm
   rw [hgb] at ho; cases ho; cases hc
 case h0 =>
  intro b hb
  exact ⟨_, [], hA0, by rw [List.take_zero]; exact World.ownsRow_nil _ _ _ _, by rw [List.take_zero]; exact ⟨rfl, fun i p x hp => by simp at hp⟩, fun p hp => (by cases hp), fun k hk => (by cases hk), hB0, by omega⟩
 case assign =>
  intro l' v W K hK
  gi_wp2
  exact hK
 case body =>
  rintro l' j x b W A c hx ⟨v, ps, i1, i2, i3, i4, i5, i6, i7⟩ ⟨hrx, hfx⟩ hxc hbW
  have hj : j < (mLv l).length := (List.getElem?_eq_some_iff.1 hx).1
  obtain ⟨hx32, hx0, hx4⟩ := mLv_mem l h32 x (List.mem_of_getElem? hx)
  have htk : (mLv l).take (j + 1) = (mLv l).take j ++ [x] := by rw [List.take_add_one, hx]; rfl
  have hlj : ((mLv l).take j).length = j := by rw [List.length_take]; omega
  generalize hT : (mLv l).take j = T at *
  obtain ⟨n, hn⟩ : ∃ n, x.length = n := ⟨_, rfl⟩
  obtain ⟨Ao, co, rfl, hco, _⟩ := own_form i2
  rw [hlj] at i2 hco i5 i4 i1
  rw [hn] at hxc ⊢
  replace hn := Lib.hid hn
  replace hT := Lib.hid hT
  replace hlj := Lib.hid hlj
  have hne : ∀ a, A = some a → (Value.slice Ao j co).ownBlock ≠ some a.block := fun a ha e => by have := i5 _ e; have := hfx a ha; omega
  have hvb : ∀ k, (Value.slice Ao j co).ownBlock = some k → k < W.heap.size := fun k hk => Nat.lt_of_lt_of_le (i5 k hk) hbW
  have hwb : w.heap.size + 2 ≤ W.heap.size := by omega
  have iw : w.heap.size < W.heap.size := by omega
  have H := Lib.hid i2
  have H3 := Lib.hid i3
  have H4 := Lib.hid i4
  have HX := Lib.hid hne
  have hrA := Lib.hid hrx
  have hc := i1.cell 0 _ rfl
  clear i2 i3 i4 hne hrx i5
  gi_wp2_with (
   refine wpListIn_of_wpList l' _ _ _ (by kernel_rfl) ?_
   go_wp2_with (at_builtin; refine wpList_append_rd (W.alloc (.cells #[.slice A n c] 23)) rfl (.tmp 8) (.tmp 10) 147 rfl (w.heap.size + 2) 23 i0 (.slice none 0 0) 1 24 Tryd.underlying147 hi0 hz0 hz1 hz2 rfl (by decide) (.slice Ao j co) j (scl ps T) rfl (H.out.alloc _) (some ⟨W.heap.size, 0, none⟩) 1 1 [.slice A n c] rfl rfl (Rd.one _ _ _) (by simp [Value.oneCell']) (by simp only [maxLen]; omega) (by omega) (by simp; omega) ?_; intro v3 w3 o3 gr3 ob3; obtain ⟨A3, c3, rfl, hc3, _⟩ := own_form o3; have q1 := (Av.alloc i1 (.cells #[.slice A n c] 23)).same (gr3.block _ (by simp; omega) (fun e => by have := (World.ownsRow.lt H.out _ e.symm).1; omega)); have qc := q1.cell 0 _ rfl; have qf := frozen_of_row _ _ 0 _ _ q1)
   unfold nrm)
  have hal : (W.alloc (.cells #[.slice A n c] 23)).heap.size = W.heap.size + 1 := e _ _
  rw [hal] at ob3
  have bA : Below W.heap.size W (W.alloc (.cells #[.slice A n c] 23)) := (Below.refl _ _).alloc (Nat.le_refl _) _
  have oA := own_below H.out bA
  have z3 : W.heap.size + 1 ≤ w3.heap.size := by rw [← hal]; exact gr3.size
  have b3 : Below w.heap.size w w3 := own_app (base := w.heap.size) (i6.trans (bA.mono (by omega))) (by exact ⟨oA.1, oA.2.imp id fun ⟨g, cap, cur, e1, e2, e3⟩ => ⟨g, cap, cur, e1, by omega, e3⟩⟩) gr3 (by rw [hal]; omega)
  have ke : ∀ A' xs, Rd W A' xs → (∀ a, A' = some a → (Value.slice Ao j co).ownBlock ≠ some a.block) → Rd w3 A' xs := fun A' xs h hn' => (h.below bA).grownOther gr3 hn'
  have blt : ∀ A' y, All32 y → 0 < y.length → Rd W A' (hcl y) → ∀ a, A' = some a → a.block < W.heap.size := by
   intro A' y hy h0 h a ha
   rcases h with h | ⟨b', off', hA, hc'⟩
   ·exact absurd h (hcl_ne hy h0)
   ·rw [hA] at ha; cases ha
    have hl := hcl_length hy
    have h1 := hc' 0 _ (List.getElem?_eq_getElem (by rw [hl]; omega))
    exact World.block_lt_of_cell? W _ h1
  have kf3 : KeepsFrom W0.heap.size W w3 := by
   refine (keepsFrom_below bA).trans ⟨gr3.size, fun k' o' hk' ho' hc' => ?_⟩
   have hlt := (Array.getElem?_eq_some_iff.1 ho').1
   refine (gr3.block k' hlt fun e => ?_).trans ho'
   rcases oA.2 with ⟨e2, _⟩ | ⟨g, cap, cur, e2, _, hgb, _⟩
   ·rw [e2] at e; cases e
   ·rw [e2] at e
    obtain rfl : k' = g := by simpa [Value.ownBlock] using e
    rw [hgb] at ho'; cases ho'; cases hc'
  have own3lt := World.ownsRow.lt o3
  have hA2 : ∀ a, A = some a → w.heap.size + 2 ≤ a.block := fun a ha => Nat.le_trans i7 (hfx a ha)
  refine ⟨kf3.trans ((KeepsOthers.setCell w3 ⟨w.heap.size, 0, none⟩ (.slice A3 (j + 1) c3)).from W0.heap.size), (ke A _ hrA.out HX.out).setOther' _ _ (fun a' ha' => by have := hA2 a' ha'; simp only; omega), .slice A3 (j + 1) c3, ps ++ [(A, c)], q1.set 0 _, ?_, ?_, ?_, ?_, b3.setCell (by simp only; omega) _, by simp; omega⟩
  ·rw [htk, scl_snoc _ _ H3.out.1, List.length_append, hlj.out, hn.out]
   refine o3.kept (grownBy_setCell' w3 w.heap.size _) ?_
   cases A3 with
   | none => exact .inl rfl
   | some a3 => refine .inr fun e => ?_; have := (own3lt a3.block rfl).1; simp [Value.ownBlock] at e; omega
  ·rw [htk]
   refine LvAt.snoc (LvAt.keep H3.out fun p hp xs h => (ke p.1 xs h fun a ha => (H4.out p hp a ha).1).setOther' _ _ (fun a' ha' => by have := (H4.out p hp a' ha').2; simp only; omega)) ((ke A _ hrA.out HX.out).setOther' _ _ (fun a' ha' => by have := hA2 a' ha'; simp only; omega)) (by rw [hn.out]; exact hxc)
  ·have hfresh : ∀ A' y, All32 y → 0 < y.length → Rd W A' (hcl y) → (∀ a, A' = some a → (Value.slice Ao j co).ownBlock ≠ some a.block) → ∀ a, A' = some a → (Value.slice A3 (j + 1) c3).ownBlock ≠ some a.block := by
    intro A' y hy h0 h hn' a ha e'
    have := blt A' y hy h0 h a ha
    rcases ob3 with h1 | h1
    ·exact hn' a ha (h1.symm.trans e')
    ·rw [h1] at e'; injection e' with e'; omega
   intro p hp a ha
   rcases List.mem_append.1 hp with hp | hp
   ·obtain ⟨i, hi⟩ := List.mem_iff_getElem?.1 hp
    have hil : i < T.length := by rw [← H3.out.1]; exact (List.getElem?_eq_some_iff.1 hi).1
    have hy := List.getElem?_eq_getElem hil
    have hmem : ∀ y ∈ T, y ∈ mLv l := fun y hy => List.mem_of_mem_take (by rw [hT.out]; exact hy)
    have hym := mLv_mem l h32 T[i] (hmem _ (List.getElem_mem hil))
    exact ⟨hfresh p.1 _ hym.1 hym.2.1 (H3.out.2 i p _ hi hy).1 (fun a ha => (H4.out p hp a ha).1) a ha, (H4.out p hp a ha).2⟩
   ·obtain rfl := List.mem_singleton.1 hp
    exact ⟨hfresh A _ hx32 hx0 hrA.out HX.out a ha, hA2 a ha⟩
  ·intro k hk; have := (own3lt k hk).2; simp; omega
 case done =>
  rintro D W hD ⟨v, ps, i1, i2, i3, i4, _, i6, _⟩ hK
  rw [List.take_of_length_le (Nat.le_refl _)] at i2 i3
  have hc := i1.cell 0 _ rfl
  obtain ⟨Ao, co, rfl, hco, _⟩ := own_form i2
  obtain ⟨q, hq⟩ : ∃ q, (mLv l).length = q := ⟨_, rfl⟩
  rw [hq] at i2 hc i4
  replace hq := Lib.hid hq
  have H3 := Lib.hid i3
  have H4 := Lib.hid i4
  clear i3 i4
  go_wp2
  refine ⟨by simp, .inl ⟨_, _, rfl, run_takeDeferred hK, ?_⟩⟩
  refine ⟨_, results_tmp rfl _ _ _, .slice Ao q co, ps, rfl, ?_, H3.out.keep fun p _ xs h => h.grown (grownBy_putObj' W D (.deferred none)) (fun r e => by cases e; exact ⟨_, hK, rfl⟩), fun p hp a ha => (H4.out p hp a ha).1, i6.grown (grownBy_putObj' W D (.deferred none)) i6.size (fun k e => by cases e; omega)⟩
  rw [hq.out]
  have o1 := ownsRow_putObj i2 (.deferred none) hK rfl
  refine ⟨o1.1, o1.2.imp id ?_⟩
  rintro ⟨g, cap, cur, e1, e2, e3⟩
  exact ⟨g, cap, cur, e1, by omega, e3⟩
end Go.Proofs.YtobjgebojhjhnaaDoor
