/- florinref12: Texts, Steps. -/
import Derived.Test.YtdkknincamkhpaaDoorQw
import Derived.Test.YtdkknincamkhpaaDoorPr16
import Derived.Test.YtdkknincamkhpaaDoorPr4
namespace Go.Proofs.YtdkknincamkhpaaDoor
open Go.RowKit
attribute [local go_sem high] slB_lh slB_l slB_h
/-- texts of 64 bytes, each at the head of a block -/
def TgAt (w : World) (gs : List (Nat × Nat)) (ts : List (List UInt8)) : Prop := gs.length = ts.length ∧ ∀ (j : Nat) (g : Nat × Nat) (t : List UInt8), gs[j]? = some g → ts[j]? = some t → ∃ r, Av w g.1 5 (t.map bv ++ r)
def tgc (gs : List (Nat × Nat)) : List Value := gs.map fun g => .slice (some ⟨g.1, 0, none⟩) 64 g.2
theorem tgc_snoc (gs : List (Nat × Nat)) (g : Nat × Nat) : tgc (gs ++ [g]) = tgc gs ++ [.slice (some ⟨g.1, 0, none⟩) 64 g.2] := by simp [tgc]
theorem tgc_length (gs : List (Nat × Nat)) : (tgc gs).length = gs.length := by rw [tgc, List.length_map]
theorem tgc_get {gs : List (Nat × Nat)} {j : Nat} {g : Nat × Nat} (h : gs[j]? = some g) : (tgc gs)[j]? = some (.slice (some ⟨g.1, 0, none⟩) 64 g.2) := by
  rw [tgc, List.getElem?_map, h]
  rfl
theorem TgAt.keep {w w' : World} {gs : List (Nat × Nat)} {ts : List (List UInt8)} (h : TgAt w gs ts) (hk : ∀ g t, Av w g 5 (t : List Value) → Av w' g 5 t) : TgAt w' gs ts := ⟨h.1, fun j g t hg ht => by
  obtain ⟨r, a⟩ := h.2 j g t hg ht
  exact ⟨r, hk _ _ a⟩⟩
theorem TgAt.below {w w' : World} {gs : List (Nat × Nat)} {ts : List (List UInt8)} (h : TgAt w gs ts) (b : Below w.heap.size w w') : TgAt w' gs ts := h.keep fun _ _ a => a.below b
theorem TgAt.store {w w' : World} {gs : List (Nat × Nat)} {ts : List (List UInt8)} {G : Nat} {t : TypeId} {l : List Value} (h : TgAt w gs ts) (f : Fr (fun j => j = G) w w') (ha : Av w G t l) (ht : t ≠ 5) : TgAt w' gs ts := h.keep fun _ _ a => f.av a (Ne.symm (Av.ne ha a ht))
theorem TgAt.grown {w w' : World} {gs : List (Nat × Nat)} {ts : List (List UInt8)} {base : Nat} {e : TypeId} {size n : Nat} {v : Value} {xs : List Value} (h : TgAt w gs ts) (ho : w.ownsRow base e size v n xs) (he : e ≠ 5) (gr : w.grownBy w' v.ownBlock) : TgAt w' gs ts :=
  h.keep fun _ _ a => (Fr.of_grown gr).av a (fun q => own_ne ho a he q.symm)
theorem TgAt.snoc {w : World} {gs : List (Nat × Nat)} {ts : List (List UInt8)} {g : Nat × Nat} {t : List UInt8} {r : List Value} (h : TgAt w gs ts) (ha : Av w g.1 5 (t.map bv ++ r)) : TgAt w (gs ++ [g]) (ts ++ [t]) := by
  refine ⟨by rw [List.length_append, List.length_append, h.1]; rfl, fun j g' t' hg ht => ?_⟩
  rcases Nat.lt_or_ge j gs.length with hi | hi
  · rw [List.getElem?_append_left hi] at hg
    rw [List.getElem?_append_left (by rw [← h.1]; exact hi)] at ht
    exact h.2 j g' t' hg ht
  · rw [List.getElem?_append_right hi] at hg
    rw [List.getElem?_append_right (by rw [← h.1]; exact hi)] at ht
    obtain ⟨hi0, rfl⟩ : j - gs.length = 0 ∧ g = g' := by
      cases hk : j - gs.length with
      | zero => rw [hk] at hg; exact ⟨rfl, by simpa using hg⟩
      | succ k => rw [hk] at hg; simp at hg
    rw [← h.1, hi0] at ht
    obtain rfl : t = t' := by simpa using ht
    exact ⟨r, ha⟩
theorem TgAt.ofSt {w : World} {gs : List Nat} {ts : List (List UInt8)} (h : StAt w gs ts) : TgAt w (gs.map fun g => (g, 64)) ts := ⟨by rw [List.length_map]; exact h.1, fun j g t hg ht => by
  rw [List.getElem?_map] at hg
  obtain ⟨q, hq, rfl⟩ := Option.map_eq_some_iff.1 hg
  exact ⟨[], by rw [List.append_nil]; exact h.2 j q t hq ht⟩⟩
theorem tgc_ofSt (gs : List Nat) : tgc (gs.map fun g => (g, 64)) = slc gs := by
  rw [tgc, slc, List.map_map]
  rfl
theorem TgAt.rd {w : World} {gs : List (Nat × Nat)} {ts : List (List UInt8)} (h : TgAt w gs ts) {j : Nat} {g : Nat × Nat} {t : List UInt8} (hg : gs[j]? = some g) (ht : ts[j]? = some t) : Rd w (some ⟨g.1, 0, none⟩) (t.map bv) := by
  obtain ⟨r, a⟩ := h.2 j g t hg ht
  have := a.rd.take (t.map bv).length
  rwa [List.take_left'] at this
  rfl
set_option maxRecDepth 10000 in
set_option maxHeartbeats 2000000 in
theorem TextsR (ts : List (List UInt8)) (h64 : ∀ t ∈ ts, t.length = 64) (gs qs : List (Nat × Nat)) (A B : Option Addr) (n ca cb : Nat) (hn : ts.length = n) (hn2 : n ≤ 100000) (w : World) (ra : Rd w A (tgc gs)) (rb : Rd w B (tgc qs)) (la : TgAt w gs ts) (lb : TgAt w qs ts) :
    Calls Tryd.prog 19 #[.slice A n ca, .slice B n cb] w fun e w' => e = .returned (.bool true) ∧ Below w.heap.size w w' := by
  have hga : gs.length = n := by rw [la.1, hn]
  have hgb : qs.length = n := by rw [lb.1, hn]
  replace hn := Lib.hid hn
  replace hga := Lib.hid hga
  replace hgb := Lib.hid hgb
  go_enter Tryd.func19, Tryd.ntmps19
  go_wp2
  go_loopw [5] (fun i wr => ∃ k : Nat, k ≤ n ∧ i = .int .i64 (k : Int) ∧ Below w.heap.size w wr) (fun i _ => n - (intOf i).toNat)
  case atStart => exact ⟨0, by omega, rfl, Below.refl _ _⟩
  case round =>
    obtain ⟨k, hk, rfl, hbw⟩ := hrel
    by_cases hlt : k < n
    · have t1 : decide ((k : Int) < (n : Int)) = true := by simp; omega
      obtain ⟨ba, oa, rfl⟩ := ra.someA (by intro e; have := congrArg List.length e; rw [tgc_length, hga.out] at this; simp at this; omega)
      obtain ⟨bb, ob, rfl⟩ := rb.someA (by intro e; have := congrArg List.length e; rw [tgc_length, hgb.out] at this; simp at this; omega)
      obtain ⟨t, ht⟩ : ∃ t, ts[k]? = some t := ⟨_, List.getElem?_eq_getElem (by rw [hn.out]; exact hlt)⟩
      obtain ⟨g, hg⟩ : ∃ g, gs[k]? = some g := ⟨_, List.getElem?_eq_getElem (by rw [hga.out]; exact hlt)⟩
      obtain ⟨q, hq⟩ : ∃ q, qs[k]? = some q := ⟨_, List.getElem?_eq_getElem (by rw [hgb.out]; exact hlt)⟩
      have t64 := h64 t (List.mem_of_getElem? ht)
      obtain ⟨g1, g2⟩ := g
      obtain ⟨q1, q2⟩ := q
      have cell : ∀ (b o : Nat) (xs : List Value) (v : Value) (w' : World), Rd w' (some ⟨b, o, none⟩) xs → xs[k]? = some v → w'.cell? ⟨b, o + k, none⟩ = some v := by
        intro b o xs v w' h hv
        rcases h with h | ⟨b', o', hA', hc⟩
        · rw [h] at hv; simp at hv
        · cases hA'
          exact hc k _ hv
      have cx := Lib.hid (fun w' (hE : Below w.heap.size w w') => cell ba oa _ _ w' (ra.below hE) (tgc_get hg))
      have cy := Lib.hid (fun w' (hE : Below w.heap.size w w') => cell bb ob _ _ w' (rb.below hE) (tgc_get hq))
      have rx := Lib.hid (fun w' (hE : Below w.heap.size w w') => (la.below hE).rd hg ht)
      have ry := Lib.hid (fun w' (hE : Below w.heap.size w w') => (lb.below hE).rd hq ht)
      have n0 : 0 ≤ (k : Int) := by omega
      have n1 : (k : Int) < (n : Int) := by omega
      clear cell
      replace ht := Lib.hid ht
      replace hg := Lib.hid hg
      replace hq := Lib.hid hq
      replace t64 := Lib.hid t64
      go_wp2_with fail
      have H1 : ∀ w', Ext wr.drew w' → Below w.heap.size w w' := fun w' hE => hbw.trans (hE.drew.mono hbw.size)
      refine wp_region_rel [] Ext (by kernel_rfl) (by kernel_rfl) (by kernel_rfl) Ext.refl Ext.trans (by intro p hp; cases hp) ?_
      refine relMove Ext.refl rfl rfl rfl rfl _ (.inl rfl) (by conv => lhs; whnf) (by simp only [List.set_cons_succ, List.set_cons_zero]; rfl) ?_
      refine relMove Ext.refl rfl rfl rfl rfl _ (.inl rfl) (by conv => lhs; whnf) (by simp only [List.set_cons_succ, List.set_cons_zero]; rfl) ?_
      refine relPure Ext.refl rfl rfl rfl rfl (fun w _ => by go_simp; first | done | rfl) (by simp only [List.set_cons_succ, List.set_cons_zero]; rfl) ?_
      refine relPure Ext.refl rfl rfl rfl rfl (c := .slice (some ⟨g1, 0, none⟩) 64 g2) (fun w hw => by have := cx.out w (H1 w hw); go_simp; first | done | rfl) (by simp only [List.set_cons_succ, List.set_cons_zero]; rfl) ?_
      refine relStr rfl rfl rfl rfl _ rfl rfl t t64.out (fun w hw => rx.out w (H1 w hw)) (by simp only [List.set_cons_succ, List.set_cons_zero]; rfl) ?_
      refine relMove Ext.refl rfl rfl rfl rfl _ (.inl rfl) (by conv => lhs; whnf) (by simp only [List.set_cons_succ, List.set_cons_zero]; rfl) ?_
      refine relMove Ext.refl rfl rfl rfl rfl _ (.inl rfl) (by conv => lhs; whnf) (by simp only [List.set_cons_succ, List.set_cons_zero]; rfl) ?_
      refine relPure Ext.refl rfl rfl rfl rfl (fun w _ => by go_simp; first | done | rfl) (by simp only [List.set_cons_succ, List.set_cons_zero]; rfl) ?_
      refine relPure Ext.refl rfl rfl rfl rfl (c := .slice (some ⟨q1, 0, none⟩) 64 q2) (fun w hw => by have := cy.out w (H1 w hw); go_simp; first | done | rfl) (by simp only [List.set_cons_succ, List.set_cons_zero]; rfl) ?_
      refine relStr rfl rfl rfl rfl _ rfl rfl t t64.out (fun w hw => ry.out w (H1 w hw)) (by simp only [List.set_cons_succ, List.set_cons_zero]; rfl) ?_
      refine relPure Ext.refl rfl rfl rfl rfl (c := .bool false) (fun w hw => by go_simp; first | done | rfl) (by simp only [List.set_cons_succ, List.set_cons_zero]; rfl) ?_
      refine relEnd fun w2 hw2 => fill_end ?_
      have hb2 := H1 w2 hw2
      go_wp2
      refine ⟨⟨k + 1, by omega, by go_num, hb2⟩, ?_⟩
      simp [intOf]; omega
    · obtain rfl : k = n := by omega
      have t1 : decide ((k : Int) < (k : Int)) = false := by simp
      go_wp2
      go_ret
      exact ⟨rfl, hbw⟩
/-- what Steps answers -/
def StepsPostR (w0 : World) (ts : List (List UInt8)) (e : Ending) (w' : World) : Prop :=
  Below w0.heap.size w0 w' ∧ ∃ A c gs, e = .returned (.slice A ts.length c) ∧ Rd w' A (tgc gs) ∧ TgAt w' gs ts
set_option maxRecDepth 100000 in
set_option maxHeartbeats 16000000 in
theorem StepsR (x : List UInt8) (hx32 : x.length = 32) (p : List (List UInt8)) (h32 : All32 p) (ki : Int) (k : Nat) (m1 : max ki 0 = (k : Int)) (hk : k < 9223372036854775808) (A : Option Addr) (n c : Nat) (hn : p.length = n) (hn2 : n ≤ 1000) (w : World) (hr : Rd w A (hcl p)) :
    Calls Tryd.prog 21 #[.agg (hcs x), .slice A n c, .int .i64 ki] w (StepsPostR w (qSt x p k)) := by
  have hz := zeros_32
  rw [show List.replicate 32 (0 : UInt8) = zs32 from rfl] at hz
  obtain ⟨R, hR⟩ : ∃ R, R = qSt x p k := ⟨_, rfl⟩
  have hRl : R.length = n := by rw [hR, qSt_length, hn]
  rw [← hR]
  replace hR := Lib.hid hR
  replace hRl := Lib.hid hRl
  replace hn := Lib.hid hn
  have hcase : (decide (ki < 0) = false ∧ ki = (k : Int)) ∨ (decide (ki < 0) = true ∧ k = 0 ∧ ki < 0) := by
    by_cases h : ki < 0
    · exact .inr ⟨by simp [h], by omega, h⟩
    · exact .inl ⟨by simp [h], by omega⟩
  have b0 : Below w.heap.size w (w.alloc (.cells (x.map bv).toArray 28)) := (Below.refl _ _).alloc (Nat.le_refl _) _
  have a0 : Av (w.alloc (.cells (x.map bv).toArray 28)) w.heap.size 28 (x.map bv) := heap_alloc_new _ _
  rcases hcase with ⟨m2, rfl⟩ | ⟨m2, hk0, hneg⟩ <;>
  · try replace hk0 := Lib.hid hk0
    go_enter Tryd.func21, Tryd.ntmps21
    go_wp2
    all_goals try (exfalso; omega)
    generalize w.alloc (.cells (x.map bv).toArray 28) = w0 at *
    go_loopw [2, 7, 8, 9, 10, 11] (fun i out s _ _ _ wr => ∃ (j i' : Nat) (y : List UInt8) (gs : List (Nat × Nat)), j ≤ n ∧ s = .int .i64 (j : Int) ∧ i = .int .i64 (i' : Int) ∧ i' ≤ k ∧ y.length = 32 ∧ Hid (qSt y (p.drop j) i' = R.drop j) ∧ Below w.heap.size w wr ∧ Av wr w.heap.size 28 (y.map bv) ∧ wr.ownsRow w.heap.size 24 1 out j (tgc gs) ∧ TgAt wr gs (R.take j)) (fun _ _ s _ _ _ _ => n - (intOf s).toNat)
    case atStart => exact ⟨0, k, x, [], by omega, rfl, by first | rfl | (rw [hk0.out]; rfl), Nat.le_refl _, hx32, Lib.hid (by rw [hR.out]; rfl), b0, a0, World.ownsRow_nil _ _ _ _, ⟨by rw [List.take_zero]; rfl, fun j g t hg => by cases hg⟩⟩
    case round =>
      clear a0 b0 m1 m2
      try clear hneg
      try clear hk0
      obtain ⟨j, i', y, gs, hj, rfl, rfl, hi, hy32, hcl0, hb, aX, hown, hst⟩ := hrel
      by_cases hlt : j < n
      · have t1 : decide ((j : Int) < (n : Int)) = true := by simp; omega
        obtain ⟨bb, off, rfl⟩ := hr.someA (hcl_ne h32 (by rw [hn.out]; omega))
        obtain ⟨o, ho⟩ : ∃ o, o = p.getD j [] := ⟨_, rfl⟩
        have ho32 : o.length = 32 := by rw [ho]; exact h32.get _ (by rw [hn.out]; omega)
        have hdr : p.drop j = o :: p.drop (j + 1) := by
          rw [List.drop_eq_getElem_cons (by rw [hn.out]; omega), ho, List.getD_eq_getElem?_getD, List.getElem?_eq_getElem (by rw [hn.out]; omega)]
          rfl
        have hcl := hcl0.out
        rw [hdr, qSt] at hcl
        obtain ⟨tx, htx⟩ : ∃ tx, R[j]? = some tx := ⟨_, List.getElem?_eq_getElem (by rw [hRl.out]; omega)⟩
        obtain ⟨hjR, htx0⟩ := List.getElem?_eq_some_iff.1 htx
        rw [List.drop_eq_getElem_cons hjR, htx0] at hcl
        have htk : R.take (j + 1) = R.take j ++ [tx] := by rw [List.take_add_one, htx]; rfl
        obtain ⟨i2, hi2⟩ : ∃ i2, i2 = i' / 2 := ⟨_, rfl⟩
        have d1 : (i' : Int) / 2 = (i2 : Int) := by omega
        have hpar : ∃ l1 r1, ((i' % 2 = 1 ∧ l1 = o ∧ r1 = y) ∨ (i' % 2 ≠ 1 ∧ l1 = y ∧ r1 = o)) ∧ tx = l1 ++ r1 ∧ qSt (pairB l1 r1) (p.drop (j + 1)) i2 = R.drop (j + 1) := by
          rw [hi2]
          by_cases hodd : i' % 2 = 1
          · rw [if_pos hodd] at hcl
            injection hcl with q1 q2
            exact ⟨o, y, .inl ⟨hodd, rfl, rfl⟩, q1.symm, q2⟩
          · rw [if_neg hodd] at hcl
            injection hcl with q1 q2
            exact ⟨y, o, .inr ⟨hodd, rfl, rfl⟩, q1.symm, q2⟩
        obtain ⟨l1, r1, hpar, htx2, hrest⟩ := hpar
        have hl1 : l1.length = 32 := by rcases hpar with ⟨_, e, _⟩ | ⟨_, e, _⟩ <;> rw [e] <;> assumption
        have hr1 : r1.length = 32 := by rcases hpar with ⟨_, _, e⟩ | ⟨_, _, e⟩ <;> rw [e] <;> assumption
        have tx64 : tx.length = 64 := by rw [htx2, List.length_append, hl1, hr1]
        obtain ⟨z, hzz⟩ : ∃ z, z = pairB l1 r1 := ⟨_, rfl⟩
        have hz32 : z.length = 32 := by rw [hzz]; exact pairB_length _ _
        rw [← hzz] at hrest
        have hzd : z = dblB tx := by rw [hzz, htx2, pairB]
        have HD := fun G GC w' r => DoubleR tx (some ⟨G, 0, none⟩) 64 GC tx64 (by omega) w' r
        rw [← hzd] at HD
        have hro := Lib.hid (fun w' (hE : Below w.heap.size w w') => ho ▸ (hr.below hE).hash h32 j (by rw [hn.out]; omega))
        have n0 : 0 ≤ (j : Int) := by omega
        have n1 : (j : Int) < (n : Int) := by omega
        have yv32 : (y.map bv).length = 32 := by rw [List.length_map, hy32]
        have ov32 : (o.map bv).length = 32 := by rw [List.length_map, ho32]
        have zv32 : (z.map bv).length = 32 := by rw [List.length_map, hz32]
        have cl1 : l1.length = 32 := hl1
        have cr1 : r1.length = 32 := hr1
        have yone : (y.map bv).all (·.oneCell') = true := List.all_eq_true.2 (bv_one y)
        have oone : (o.map bv).all (·.oneCell') = true := List.all_eq_true.2 (bv_one o)
        have zone : (z.map bv).all (·.oneCell') = true := List.all_eq_true.2 (bv_one z)
        have n12 : gs.length = j := by rw [hst.1, List.length_take, hRl.out]; omega
        replace n12 := Lib.hid n12
        replace hrest := Lib.hid hrest
        replace hzz := Lib.hid hzz
        replace hzd := Lib.hid hzd
        replace HD := Lib.hid HD
        replace htx2 := Lib.hid htx2
        replace htx := Lib.hid htx
        replace htx0 := Lib.hid htx0
        replace htk := Lib.hid htk
        replace hpar := Lib.hid hpar
        replace hl1 := Lib.hid hl1
        replace hr1 := Lib.hid hr1
        replace cl1 := Lib.hid cl1
        replace cr1 := Lib.hid cr1
        replace tx64 := Lib.hid tx64
        replace hz32 := Lib.hid hz32
        replace hy32 := Lib.hid hy32
        replace ho32 := Lib.hid ho32
        replace yv32 := Lib.hid yv32
        replace ov32 := Lib.hid ov32
        replace zv32 := Lib.hid zv32
        replace yone := Lib.hid yone
        replace oone := Lib.hid oone
        replace zone := Lib.hid zone
        replace hi2 := Lib.hid hi2
        clear hcl hcl0 ho hdr
        have hro1 := hro.out wr hb
        go_upto_region 7 with (first
          | ((with_reducible refine wpList_loadF 28 aX ?_ _ 32 yv32.out Tryd.underlying28 ?_ ?_ ?_); rfl; rfl; kernel_rfl)
          | ((with_reducible refine wpList_storeF 28 ((Below.refl wr.heap.size wr).alloc (Nat.le_refl _) _) (heap_alloc_new _ _) (Nat.le_refl _) (y.map bv) ?_ ?_ 32 yv32.out ?_ ?_ ?_ ?_); rfl; rfl; kernel_rfl; rfl; exact yone.out; intro w3 a93 b3 k3 z3))
        obtain ⟨P9, hP9⟩ : ∃ P9, P9 = wr.heap.size := ⟨_, rfl⟩
        rw [← hP9] at a93 ⊢
        have hw9 : wr.heap.size ≤ P9 := by omega
        have hX9 : w.heap.size ≠ P9 := by have := aX.lt; omega
        replace hP9 := Lib.hid hP9
        have hro3 := hro.out w3 (hb.trans (b3.mono hb.size))
        clear k3 z3 hro1
        go_upto_region 8 with (first
          | (refine wpList_load_mid rfl _ _ rfl bb (off + j * 32) rfl (o.map bv) _ hro3 Tryd.underlying28 rfl (by rw [ov32.out]; kernel_rfl) ?_)
          | ((with_reducible refine wpList_storeF 28 ((Below.refl w3.heap.size w3).alloc (Nat.le_refl _) _) (heap_alloc_new _ _) (Nat.le_refl _) (o.map bv) ?_ ?_ 32 ov32.out ?_ ?_ ?_ ?_); rfl; rfl; kernel_rfl; rfl; exact oone.out; intro w4 a04 b4 k4 z4))
        obtain ⟨P0, hP0⟩ : ∃ P0, P0 = w3.heap.size := ⟨_, rfl⟩
        rw [← hP0] at a04 ⊢
        have hw0 : wr.heap.size ≤ P0 := by have := b3.size; omega
        have hX0 : w.heap.size ≠ P0 := by have := aX.lt; have := b3.size; omega
        have h90 : P9 ≠ P0 := by have := a93.lt; omega
        replace hP0 := Lib.hid hP0
        have a94 := a93.below b4
        have b34 := b3.trans (b4.mono b3.size)
        have aX4 := aX.below b34
        have hro4 := hro.out w4 (hb.trans (b34.mono hb.size))
        clear k4 z4 a93 b3 b4 hro3
        rcases hpar.out with ⟨hodd, e1, e2⟩ | ⟨hodd, e1, e2⟩
        · have t2 : (((i' : Int) % 2) == 1) = true := by simp; omega
          go_upto_region 10 with (first
            | (refine wpList_load_mid rfl _ _ rfl bb (off + j * 32) rfl (o.map bv) _ hro4 Tryd.underlying28 rfl (by rw [ov32.out]; kernel_rfl) ?_)
            | ((with_reducible refine wpList_storeFA 28 b34 a94 hw9 (o.map bv) ?_ ?_ 32 ov32.out ?_ ?_ ?_ ?_); rfl; rfl; kernel_rfl; exact yv32.out; exact oone.out; intro wa aa ba ka za))
          have aXa := aX4.same (ka _ hX9)
          have a0a := a04.same (ka _ (Ne.symm h90))
          clear a94 a04 aX4 hro4
          go_upto_region 11 with (first
            | ((with_reducible refine wpList_loadF 28 aXa ?_ _ 32 yv32.out Tryd.underlying28 ?_ ?_ ?_); rfl; rfl; kernel_rfl)
            | ((with_reducible refine wpList_storeFA 28 ba a0a hw0 (y.map bv) ?_ ?_ 32 yv32.out ?_ ?_ ?_ ?_); rfl; rfl; kernel_rfl; exact ov32.out; exact yone.out; intro w5 aq5 b5 k5 z5))
          have ag5 := aa.same (k5 _ h90)
          have aX5 := aXa.same (k5 _ hX0)
          rw [← e1] at ag5
          rw [← e2] at aq5
          clear hodd aa ba ka za k5 z5 a0a aXa b34
          have hP9 : P9 ≠ w.heap.size := by have := aX5.lt; omega
          have hs5 := b5.size
          go_upto_region 13 with (first
            | (at_builtin; refine wpList_appB (OwnB.made w5 wr.heap.size hs5 #[] 0 (by simp only [maxLen]; omega) rfl) (b5.alloc hs5 (.cells #[] 5)) (by have := hs5; simp; omega) 32 32 (ag5.alloc (.cells #[] 5)).rd cl1.out (by simp) rfl (.tmp 33) (.tmp 34) rfl rfl rfl ?_; intro v6 w6 own6 b6 z6 gr6; have aq6 := (Fr.of_grown gr6).av (aq5.alloc (.cells #[] 5)) (fun e => by have := aq5.lt; simp [Value.ownBlock] at e; omega); rw [List.nil_append] at own6)
            | (at_builtin; refine wpList_appB own6 b6 b6.size 32 32 aq6.rd cr1.out (by rw [hl1.out]; decide) rfl (.tmp 36) (.tmp 37) rfl rfl rfl ?_; intro v7 w7 own7 b7 z7 gr7))
          rw [← htx2.out] at own7
          unfold OwnB at own7
          rw [tx64.out] at own7
          obtain ⟨G, GC, rr, rfl, hG, hGC, hGM, aGx, _⟩ := own_open own7 (by omega)
          have aX7 := aX.below b7
          have own8 := own_below hown b7
          have st8 := hst.below b7
          have bw7 := hb.trans (b7.mono hb.size)
          clear own6 own7 b6 gr6 gr7 aq6 ag5 aq5 aX5 b5 z6 z7 hs5 aX hst hown hb
          have bA : Below w7.heap.size w7 (w7.alloc (.cells #[.slice (some ⟨G, 0, none⟩) 64 GC] 24)) := (Below.refl _ _).alloc (Nat.le_refl _) _
          have hBs : w.heap.size ≤ (w7.alloc (.cells #[.slice (some ⟨G, 0, none⟩) 64 GC] 24)).heap.size := Nat.le_trans bw7.size bA.size
          have ownA := own_below own8 bA
          have stA := st8.below bA
          have aA := aGx.below bA
          have aXA := aX7.below bA
          have bwA := bw7.trans (bA.mono bw7.size)
          replace bA := Lib.hid bA
          replace hBs := Lib.hid hBs
          clear own8 st8 bw7 aGx aX7 b7
          go_upto_region 14 with ((at_builtin; refine wpList_appE Tryd.underlying43 infoLu zeroLu (by decide) ownA hBs.out (A := some ⟨w7.heap.size, 0, none⟩) [.slice (some ⟨G, 0, none⟩) 64 GC] 1 1 (Rd.one _ _ _) rfl (by simp [Value.oneCell']) (by omega) (by omega) rfl (.tmp 39) (.tmp 41) rfl rfl rfl ?_; intro v10 w10 own10 gr10 ob10; obtain ⟨A10, c10, rfl, hc10, _⟩ := own_form own10))
          have f10 := Fr.of_grown gr10
          have a10 := f10.av aA (fun e => own_ne ownA aA (by decide) e.symm)
          have aX10 := f10.av aXA (fun e => own_ne ownA aXA (by decide) e.symm)
          have st10 := (stA.grown ownA (by decide) gr10).snoc (g := (G, GC)) a10
          have bw10 := own_app bwA ownA gr10 hBs.out
          rw [← tgc_snoc gs (G, GC)] at own10
          have rdG := (a10.rd.take 64)
          rw [List.take_left' (by rw [List.length_map, tx64.out])] at rdG
          have HD2 := HD.out G GC w10 rdG
          replace HD2 := Lib.hid HD2
          clear ownA stA aA aXA bwA gr10 f10 a10 hc10 ob10 bA hBs rdG
          go_wp2_with (first
            | (go_at_call 37; refine (HD2.out).mono ?_; rintro e w11 ⟨rfl, b11⟩)
            | ((with_reducible refine wpList_storeFA 28 (Below.refl w.heap.size w11) (aX10.below b11) (Nat.le_refl _) (z.map bv) ?_ ?_ 32 zv32.out ?_ ?_ ?_ ?_); rfl; rfl; kernel_rfl; exact yv32.out; exact zone.out; intro w12 a12 b12 k12 z12))
          have f12 := Fr.ofStore b12 k12 z12
          have aX11 := aX10.below b11
          have bw11 := bw10.trans (b11.mono bw10.size)
          have own12 := own_fr (own_below own10 b11) f12 (fun j e h => own_ne (own_below own10 b11) aX11 (by decide) (by rw [e, h]))
          have st12 := (st10.below b11).store f12 aX11 (by decide)
          have bw12 := bw11.trans (f12.below (fun j e => by omega) bw11.size)
          rw [← htk.out] at st12
          refine ⟨⟨j + 1, i2, z, gs ++ [(G, GC)], by omega, rfl, rfl, by omega, hz32.out, hrest, bw12, a12, own12, st12⟩, ?_⟩
          simp only [intOf]
          omega
        · have t2 : (((i' : Int) % 2) == 1) = false := by simp; omega
          go_upto_region 11 with fail
          obtain ⟨w5, hw5⟩ : ∃ w5, w5 = w4 := ⟨_, rfl⟩
          have ag5 := a94
          have aq5 := a04
          have aX5 := aX4
          have b5 := b34
          rw [← e1] at ag5
          rw [← e2] at aq5
          rw [← hw5] at ag5 aq5 aX5 b5 ⊢
          clear hodd hw5 a94 a04 aX4 b34 hro4
          have hP9 : P9 ≠ w.heap.size := by have := aX5.lt; omega
          have hs5 := b5.size
          go_upto_region 13 with (first
            | (at_builtin; refine wpList_appB (OwnB.made w5 wr.heap.size hs5 #[] 0 (by simp only [maxLen]; omega) rfl) (b5.alloc hs5 (.cells #[] 5)) (by have := hs5; simp; omega) 32 32 (ag5.alloc (.cells #[] 5)).rd cl1.out (by simp) rfl (.tmp 33) (.tmp 34) rfl rfl rfl ?_; intro v6 w6 own6 b6 z6 gr6; have aq6 := (Fr.of_grown gr6).av (aq5.alloc (.cells #[] 5)) (fun e => by have := aq5.lt; simp [Value.ownBlock] at e; omega); rw [List.nil_append] at own6)
            | (at_builtin; refine wpList_appB own6 b6 b6.size 32 32 aq6.rd cr1.out (by rw [hl1.out]; decide) rfl (.tmp 36) (.tmp 37) rfl rfl rfl ?_; intro v7 w7 own7 b7 z7 gr7))
          rw [← htx2.out] at own7
          unfold OwnB at own7
          rw [tx64.out] at own7
          obtain ⟨G, GC, rr, rfl, hG, hGC, hGM, aGx, _⟩ := own_open own7 (by omega)
          have aX7 := aX.below b7
          have own8 := own_below hown b7
          have st8 := hst.below b7
          have bw7 := hb.trans (b7.mono hb.size)
          clear own6 own7 b6 gr6 gr7 aq6 ag5 aq5 aX5 b5 z6 z7 hs5 aX hst hown hb
          have bA : Below w7.heap.size w7 (w7.alloc (.cells #[.slice (some ⟨G, 0, none⟩) 64 GC] 24)) := (Below.refl _ _).alloc (Nat.le_refl _) _
          have hBs : w.heap.size ≤ (w7.alloc (.cells #[.slice (some ⟨G, 0, none⟩) 64 GC] 24)).heap.size := Nat.le_trans bw7.size bA.size
          have ownA := own_below own8 bA
          have stA := st8.below bA
          have aA := aGx.below bA
          have aXA := aX7.below bA
          have bwA := bw7.trans (bA.mono bw7.size)
          replace bA := Lib.hid bA
          replace hBs := Lib.hid hBs
          clear own8 st8 bw7 aGx aX7 b7
          go_upto_region 14 with ((at_builtin; refine wpList_appE Tryd.underlying43 infoLu zeroLu (by decide) ownA hBs.out (A := some ⟨w7.heap.size, 0, none⟩) [.slice (some ⟨G, 0, none⟩) 64 GC] 1 1 (Rd.one _ _ _) rfl (by simp [Value.oneCell']) (by omega) (by omega) rfl (.tmp 39) (.tmp 41) rfl rfl rfl ?_; intro v10 w10 own10 gr10 ob10; obtain ⟨A10, c10, rfl, hc10, _⟩ := own_form own10))
          have f10 := Fr.of_grown gr10
          have a10 := f10.av aA (fun e => own_ne ownA aA (by decide) e.symm)
          have aX10 := f10.av aXA (fun e => own_ne ownA aXA (by decide) e.symm)
          have st10 := (stA.grown ownA (by decide) gr10).snoc (g := (G, GC)) a10
          have bw10 := own_app bwA ownA gr10 hBs.out
          rw [← tgc_snoc gs (G, GC)] at own10
          have rdG := (a10.rd.take 64)
          rw [List.take_left' (by rw [List.length_map, tx64.out])] at rdG
          have HD2 := HD.out G GC w10 rdG
          replace HD2 := Lib.hid HD2
          clear ownA stA aA aXA bwA gr10 f10 a10 hc10 ob10 bA hBs rdG
          go_wp2_with (first
            | (go_at_call 37; refine (HD2.out).mono ?_; rintro e w11 ⟨rfl, b11⟩)
            | ((with_reducible refine wpList_storeFA 28 (Below.refl w.heap.size w11) (aX10.below b11) (Nat.le_refl _) (z.map bv) ?_ ?_ 32 zv32.out ?_ ?_ ?_ ?_); rfl; rfl; kernel_rfl; exact yv32.out; exact zone.out; intro w12 a12 b12 k12 z12))
          have f12 := Fr.ofStore b12 k12 z12
          have aX11 := aX10.below b11
          have bw11 := bw10.trans (b11.mono bw10.size)
          have own12 := own_fr (own_below own10 b11) f12 (fun j e h => own_ne (own_below own10 b11) aX11 (by decide) (by rw [e, h]))
          have st12 := (st10.below b11).store f12 aX11 (by decide)
          have bw12 := bw11.trans (f12.below (fun j e => by omega) bw11.size)
          rw [← htk.out] at st12
          refine ⟨⟨j + 1, i2, z, gs ++ [(G, GC)], by omega, rfl, rfl, by omega, hz32.out, hrest, bw12, a12, own12, st12⟩, ?_⟩
          simp only [intOf]
          omega
      · obtain rfl : j = n := by omega
        have t1 : decide ((j : Int) < (j : Int)) = false := by simp
        rw [List.take_of_length_le (by rw [hRl.out]; exact Nat.le_refl _)] at hst
        obtain ⟨A1, c1, rfl, hc1, _⟩ := own_form hown
        have hrd := own_rd hown
        clear hcl0
        go_wp2
        go_ret
        refine ⟨hb, A1, c1, gs, by rw [hRl.out]; rfl, hrd, hst⟩
end Go.Proofs.YtdkknincamkhpaaDoor
