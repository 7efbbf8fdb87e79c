/- The law ProofChecks: the walk. -/
import Derived.Test.YtdkknincamkhpaaDoorQy
namespace Go.Proofs.YtdkknincamkhpaaDoor
open Go.RowKit
attribute [local go_sem high] slB_lh slB_l slB_h
/-- what is extracted, both ways -/
def extX : Option PRes → List UInt8
  | none => zs32
  | some r => r.x
def extL : Option PRes → List (Nat × List UInt8)
  | none => []
  | some r => r.l
def extE : Option PRes → Int
  | none => 13
  | some _ => 0
theorem PExtH (fl : List UInt8) (hs : List (List UInt8)) (h32 : All32 hs) (tot : Nat) (Ah : Option Addr) (nh ch : Nat) (Af : Option Addr) (nf cf : Nat) (hnh : hs.length = nh) (hnf : fl.length = nf) (ht : tot < 4294967296) (hnf2 : nf ≤ 10000) (hnh2 : nh ≤ 10000) (w : World)
    (hrh : Rd w Ah (hcl hs)) (hrf : Rd w Af (fl.map bv)) (hT : Tabs w) :
    Calls Tryd.prog 22 #[.agg (trc tot Ah nh ch Af nf cf).toArray] w fun e w' => Below w.heap.size w w' ∧ ∃ A c, e = .returned (.tuple #[.agg (hcs (extX (pExt tot hs fl))), .slice A (extL (pExt tot hs fl)).length c, .int .i64 (extE (pExt tot hs fl))]) ∧ (extL (pExt tot hs fl)).length ≤ c ∧ Rd w' A (mlc (extL (pExt tot hs fl))) := by
  refine (PExt fl hs h32 tot Ah nh ch Af nf cf hnh hnf ht hnf2 hnh2 w hrh hrf hT).mono ?_
  intro e w' h
  unfold ExtPost at h
  cases hq : pExt tot hs fl with
  | none =>
    rw [hq] at h
    exact ⟨h.1, none, 0, h.2, Nat.le_refl _, .inl rfl⟩
  | some r =>
    rw [hq] at h
    obtain ⟨h1, A, c, h2, h3, _, h4⟩ := h
    exact ⟨h1, A, c, h2, h3, h4⟩
theorem PPathB (fl : List UInt8) (hs : List (List UInt8)) (h32 : All32 hs) (tot : Nat) (Ah : Option Addr) (nh ch : Nat) (Af : Option Addr) (nf cf : Nat) (hnh : hs.length = nh) (hnf : fl.length = nf) (ht : tot < 4294967296) (hnf2 : nf ≤ 10000) (hnh2 : nh ≤ 10000) (pos : Int) (w : World)
    (hrh : Rd w Ah (hcl hs)) (hrf : Rd w Af (fl.map bv)) (hT : Tabs w) :
    Calls Tryd.prog 11 #[.agg (trc tot Ah nh ch Af nf cf).toArray, .int .i64 pos] w fun e w' => Below w.heap.size w w' ∧ ∃ A m c, e = .returned (.tuple #[.slice A m c, .bool (qFnd tot hs fl pos).isSome]) ∧ m ≤ c ∧ m ≤ 12 ∧ ((qFnd tot hs fl pos).isSome = false → m = 0) := by
  refine (PPath fl hs h32 tot Ah nh ch Af nf cf hnh hnf ht hnf2 hnh2 pos w hrh hrf hT).mono ?_
  intro e w' h
  unfold PathPost at h
  cases hq : qFnd tot hs fl pos with
  | none =>
    rw [hq] at h
    exact ⟨h.1, none, 0, 0, h.2, Nat.le_refl _, by omega, fun _ => rfl⟩
  | some r =>
    rw [hq] at h
    obtain ⟨h1, A, c, h2, h3, _, _⟩ := h
    obtain ⟨q1, _, _, q2, _⟩ := qPath_climbs (x := r.1) (y := r.2) hq
    exact ⟨h1, A, _, c, h2, h3, by rw [q1]; exact (pHt_spec tot q2).1, fun h => by cases h⟩
/-- the matches at a place, counted -/
theorem qFind_any : ∀ (l : List (Nat × List UInt8)) (pos : Int) (y : List UInt8), l.Pairwise (fun p q => p.1 < q.1) → (qFind l pos).isSome = l.any (fun p => (p.1 : Int) == pos) ∧ (match qFind l pos with | none => false | some z => z == y) = l.any (fun p => ((p.1 : Int) == pos) && (p.2 == y))
  | [], pos, y, _ => ⟨rfl, rfl⟩
  | a :: l, pos, y, hw => by
    obtain ⟨h1, h2⟩ := List.pairwise_cons.1 hw
    obtain ⟨i1, i2⟩ := qFind_any l pos y h2
    rw [qFind_cons, List.any_cons, List.any_cons]
    by_cases h : (a.1 : Int) = pos
    · have e : ((a.1 : Int) == pos) = true := beq_iff_eq.2 h
      have hn : l.any (fun p => ((p.1 : Int) == pos) && (p.2 == y)) = false := by
        rw [List.any_eq_false]
        intro p hp
        have := h1 p hp
        have : ((p.1 : Int) == pos) = false := beq_eq_false_iff_ne.2 (by omega)
        rw [this]
        simp
      rw [if_pos h, e, hn]
      simp
    · have e : ((a.1 : Int) == pos) = false := beq_eq_false_iff_ne.2 h
      rw [if_neg h, e]
      simp only [Bool.false_or, Bool.false_and]
      exact ⟨i1, i2⟩
/-- is there a match at a place among the first ones? with a hash? -/
def qT (l : List (Nat × List UInt8)) (pos : Int) (j : Nat) : Bool := (l.take j).any fun p => (p.1 : Int) == pos
def qF (l : List (Nat × List UInt8)) (pos : Int) (y : List UInt8) (j : Nat) : Bool := (l.take j).any fun p => ((p.1 : Int) == pos) && (p.2 == y)
theorem qT_succ (l : List (Nat × List UInt8)) (pos : Int) (j : Nat) (p : Nat × List UInt8) (hp : l[j]? = some p) : qT l pos (j + 1) = (qT l pos j || ((p.1 : Int) == pos)) := by
  rw [qT, List.take_add_one, hp, List.any_append]
  simp [qT]
theorem qF_succ (l : List (Nat × List UInt8)) (pos : Int) (y : List UInt8) (j : Nat) (p : Nat × List UInt8) (hp : l[j]? = some p) : qF l pos y (j + 1) = (qF l pos y j || (((p.1 : Int) == pos) && (p.2 == y))) := by
  rw [qF, List.take_add_one, hp, List.any_append]
  simp [qF]
theorem extL_facts {tot : Nat} {hs : List (List UInt8)} {fl : List UInt8} (h32 : All32 hs) : (extL (pExt tot hs fl)).Pairwise (fun p q => p.1 < q.1) ∧ (∀ p ∈ extL (pExt tot hs fl), p.2.length = 32) ∧ (extX (pExt tot hs fl)).length = 32 ∧ (extL (pExt tot hs fl)).length ≤ hs.length := by
  cases h : pExt tot hs fl with
  | none => exact ⟨.nil, (fun _ hp => by cases hp), rfl, Nat.zero_le _⟩
  | some r =>
    obtain ⟨b1, b2, b3, b4, b5, b6, b7⟩ := pRd_bounds tot fl hs h32 _ _ _ _ r (qExt_facts h).2.2.1
    exact ⟨pExt_rise h, b7, b6, by rw [extL]; omega⟩
theorem qFnd_ext (tot : Nat) (hs : List (List UInt8)) (fl : List UInt8) (pos : Int) : (qFnd tot hs fl pos).isSome = (qFind (extL (pExt tot hs fl)) pos).isSome := by
  unfold qFnd
  cases pExt tot hs fl with
  | none => rfl
  | some r =>
    rw [Option.bind_some, extL]
    cases qFind r.l pos <;> rfl
/-- a leaf is proved just if it is a match -/
theorem qCheck_ext {tot : Nat} {hs : List (List UInt8)} {fl : List UInt8} (h32 : All32 hs) (root : List UInt8) (pos : Int) (y : List UInt8) (n : Nat) (hn : (extL (pExt tot hs fl)).length = n) :
    qCheck tot hs fl root pos y = ((extE (pExt tot hs fl) == 0) && ((extX (pExt tot hs fl) == root) && qF (extL (pExt tot hs fl)) pos y n)) ∧ (qFnd tot hs fl pos).isSome = qT (extL (pExt tot hs fl)) pos n := by
  obtain ⟨hw, _, _, _⟩ := extL_facts (tot := tot) (fl := fl) h32
  obtain ⟨h1, h2⟩ := qFind_any _ pos y hw
  refine ⟨?_, ?_⟩
  · rw [qF, List.take_of_length_le (Nat.le_of_eq hn), ← h2]
    unfold qCheck qFnd
    cases hx : pExt tot hs fl with
    | none => rfl
    | some r =>
      rw [Option.bind_some, extL, extX, extE]
      cases qFind r.l pos with
      | none => simp
      | some z => simp
  · rw [qFnd_ext, h1, qT, List.take_of_length_le (Nat.le_of_eq hn)]
section
variable {P : Program} {ops : Array Oper} {R : World → World → Prop} {Q : Exit → Act → World → Prop} {w0 : World} {L : List (Nat × VP)} {i : Nat} {o : Oper} {rest : List Oper} {l l' : List Value} {d : List Deferred}
/-- an operation that is guarded by one that was left out -/
theorem relSkipU (hL : L.lookup i = none) (hD : (L.all fun p => !lookOn ops o p.1) = true) (hw : Region.wanted o (yielded ops l.toArray) = false) {t : Nat} (ht : o.dst = some t)
    (hl : l.set t undef = l') (k : relWalk P ops R Q w0 L (i + 1) rest ⟨l'.toArray, d⟩) : relWalk P ops R Q w0 L i (o :: rest) ⟨l.toArray, d⟩ := by
  subst hl
  unfold relWalk
  rw [hL]
  refine ⟨undef, fun w hR => fill_none hD ?_, ?_⟩
  · unfold relOp
    rw [hw]
    exact rfl
  · rw [ht, put_lit]
    exact k
end
theorem Rd.match_atq {v : World} {b off : Nat} {l : List (Nat × List UInt8)} (h : Rd v (some ⟨b, off, none⟩) (mlc l)) (h32 : ∀ p ∈ l, p.2.length = 32) (k : Nat) (p : Nat × List UInt8) (hk : l[k]? = some p) : v.cell? ⟨b, off + k * 33, none⟩ = some (.int .i64 (p.1 : Int)) ∧ v.rangeAt b (off + k * 33 + 1) (p.2.map bv) := by
  have := Rd.piece mtc 33 l (fun e he => mtc_len (h32 e he)) h k p hk
  refine ⟨?_, fun j u hj => ?_⟩
  · have := this 0 (.int .i64 (p.1 : Int)) rfl
    rwa [Nat.add_zero] at this
  · have := this (j + 1) u (by rw [mtc, List.singleton_append, List.getElem?_cons_succ]; exact hj)
    rwa [show off + k * 33 + (j + 1) = off + k * 33 + 1 + j by omega] at this
set_option maxRecDepth 100000 in
set_option maxHeartbeats 8000000 in
theorem pchk_0 (tot : Nat) (Ah Af : Option Addr) (nh ch nf cf : Nat) (root y : List UInt8) (pos : Int) (h : false = decide (nh ≤ 60 ∧ nf ≤ 60)) (w : World) (hT : Tabs w) : Calls Tryd.prog 4 #[.agg (trc tot Ah nh ch Af nf cf).toArray, .agg (hcs root), .int .i64 pos, .agg (hcs y)] w fun e w' => e = .returned (.bool true) ∧ Below w.heap.size w w' := by
  obtain ⟨X, hX⟩ : ∃ X, X = w.heap.size := ⟨_, rfl⟩
  obtain ⟨W, hW⟩ : ∃ W, W = ((w.alloc (.cells (trc tot Ah nh ch Af nf cf).toArray 26)).alloc (.cells (root.map bv).toArray 28)).alloc (.cells (y.map bv).toArray 28) := ⟨_, rfl⟩
  have bW : Below w.heap.size w W := by rw [hW]; exact (((Below.refl _ _).alloc (Nat.le_refl _) _).alloc (by simp) _).alloc (by simp; omega) _
  have aX : Av W X 26 (trc tot Ah nh ch Af nf cf) := by rw [hW, hX]; exact (Av.newer w (trc tot Ah nh ch Af nf cf) _ _).below ((Below.refl _ _).alloc (Nat.le_refl _) _)
  have aR : Av W (X + 1) 28 (root.map bv) := by rw [hW, hX, ← World.size_alloc w (.cells (trc tot Ah nh ch Af nf cf).toArray 26)]; exact Av.newer _ _ _ _
  have aY : Av W (X + 2) 28 (y.map bv) := by rw [hW, hX, show w.heap.size + 2 = ((w.alloc (.cells (trc tot Ah nh ch Af nf cf).toArray 26)).alloc (.cells (root.map bv).toArray 28)).heap.size by simp]; exact Av.new _ _ _
  have HA := Lib.hid (awake12 W (hT.below bW))
  replace hX := Lib.hid hX
  replace hW := Lib.hid hW
  have HW := fun w' => PFew false tot Ah nh ch Af nf cf h w'
  replace HW := Lib.hid HW
  clear h
  go_enter Tryd.func4, Tryd.ntmps4
  go_upto_region 1 with fail
  rw [← hX.out]
  rw [show ((w.alloc (.cells (trc tot Ah nh ch Af nf cf).toArray 26)).alloc (.cells (hcs root) 28)).alloc (.cells (hcs y) 28) = W from hW.out.symm]
  go_upto_region 2 with (go_at_call 9; refine (HA.out).mono ?_; rintro e w1 ⟨rfl, b1⟩)
  have aX1 := aX.below b1
  have aR1 := aR.below b1
  have aY1 := aY.below b1
  have bw1 := bW.trans (b1.mono bW.size)
  clear HA aX aR aY b1
  go_wp2_with (first
    | ((with_reducible refine wpList_loadF 26 aX1 ?_ _ 3 (rfl) Tryd.underlying26 ?_ ?_ ?_); rfl; rfl; kernel_rfl)
    | (go_at_call 10; refine (HW.out w1).mono ?_; rintro e w2 ⟨rfl, b2⟩))
  go_ret
  exact ⟨rfl, bw1.trans (b2.mono bw1.size)⟩
set_option maxRecDepth 100000 in
set_option maxHeartbeats 16000000 in
theorem pchk_1 (tot : Nat) (hs : List (List UInt8)) (fl : List UInt8) (Ah Af : Option Addr) (nh ch nf cf : Nat) (htot : tot < 4294967296) (hnh : hs.length = nh) (h32 : All32 hs) (hnf : fl.length = nf) (root y : List UInt8) (r32 : root.length = 32) (y32 : y.length = 32) (pos : Int) (w : World) (hrh : Rd w Ah (hcl hs)) (hrf : Rd w Af (fl.map bv)) (hT : Tabs w) (h60 : nh ≤ 60) (f60 : nf ≤ 60) : Calls Tryd.prog 4 #[.agg (trc tot Ah nh ch Af nf cf).toArray, .agg (hcs root), .int .i64 pos, .agg (hcs y)] w fun e w' => e = .returned (.bool true) ∧ Below w.heap.size w w' := by
  obtain ⟨X, hX⟩ : ∃ X, X = w.heap.size := ⟨_, rfl⟩
  obtain ⟨W, hW⟩ : ∃ W, W = ((w.alloc (.cells (trc tot Ah nh ch Af nf cf).toArray 26)).alloc (.cells (root.map bv).toArray 28)).alloc (.cells (y.map bv).toArray 28) := ⟨_, rfl⟩
  have bW : Below w.heap.size w W := by rw [hW]; exact (((Below.refl _ _).alloc (Nat.le_refl _) _).alloc (by simp) _).alloc (by simp; omega) _
  have aX : Av W X 26 (trc tot Ah nh ch Af nf cf) := by rw [hW, hX]; exact (Av.newer w (trc tot Ah nh ch Af nf cf) _ _).below ((Below.refl _ _).alloc (Nat.le_refl _) _)
  have aR : Av W (X + 1) 28 (root.map bv) := by rw [hW, hX, ← World.size_alloc w (.cells (trc tot Ah nh ch Af nf cf).toArray 26)]; exact Av.newer _ _ _ _
  have aY : Av W (X + 2) 28 (y.map bv) := by rw [hW, hX, show w.heap.size + 2 = ((w.alloc (.cells (trc tot Ah nh ch Af nf cf).toArray 26)).alloc (.cells (root.map bv).toArray 28)).heap.size by simp]; exact Av.new _ _ _
  have HA := Lib.hid (awake12 W (hT.below bW))
  replace hX := Lib.hid hX
  replace hW := Lib.hid hW
  have HW := fun w' => PFew true tot Ah nh ch Af nf cf (by simp; omega) w'
  have HE := fun w' r r2 t => PExtH fl hs h32 tot Ah nh ch Af nf cf hnh hnf htot (by omega) (by omega) w' r r2 t
  have HQ := fun w' r r2 t => PPathB fl hs h32 tot Ah nh ch Af nf cf hnh hnf htot (by omega) (by omega) pos w' r r2 t
  have HK := fun w' r r2 t => PCheck fl hs h32 tot Ah nh ch Af nf cf hnh hnf htot (by omega) (by omega) root y r32 y32 pos w' r r2 t
  have HP := fun w' => PTree tot Ah nh ch Af nf cf w'
  obtain ⟨l1, l2, l3, l4⟩ := extL_facts (tot := tot) (fl := fl) h32
  obtain ⟨n, hn⟩ : ∃ n, n = (extL (pExt tot hs fl)).length := ⟨_, rfl⟩
  obtain ⟨q1, q2⟩ := qCheck_ext (tot := tot) (fl := fl) h32 root pos y n hn.symm
  have hnb : n ≤ 60 := by omega
  rw [← hn] at HE
  have hE2 : extE (pExt tot hs fl) = 0 ∨ extE (pExt tot hs fl) = 13 := by cases pExt tot hs fl; exact .inr rfl; exact .inl rfl
  obtain ⟨gx, hgx⟩ : ∃ gx, gx = extX (pExt tot hs fl) := ⟨_, rfl⟩
  obtain ⟨L, hL⟩ : ∃ L, L = extL (pExt tot hs fl) := ⟨_, rfl⟩
  obtain ⟨E, hE⟩ : ∃ E, E = extE (pExt tot hs fl) := ⟨_, rfl⟩
  obtain ⟨O, hO⟩ : ∃ O, O = (qFnd tot hs fl pos).isSome := ⟨_, rfl⟩
  obtain ⟨Q, hQ⟩ : ∃ Q, Q = qCheck tot hs fl root pos y := ⟨_, rfl⟩
  rw [← hgx] at HE q1 l3
  rw [← hL] at HE q1 q2 l2 hn
  rw [← hE] at HE q1 hE2
  rw [← hO] at HQ q2
  rw [← hQ] at HK q1
  have gxv32 : (gx.map bv).length = 32 := by rw [List.length_map, l3]
  have gone : (gx.map bv).all (·.oneCell') = true := List.all_eq_true.2 (bv_one gx)
  have rootv32 : (root.map bv).length = 32 := by rw [List.length_map, r32]
  have yv32 : (y.map bv).length = 32 := by rw [List.length_map, y32]
  obtain ⟨c4, hc4⟩ : ∃ c4, c4 = (gx == root) := ⟨_, rfl⟩
  have EG := fun p q w => eqlHw gx root l3 r32 p q w
  rw [← hc4] at EG q1
  clear l1 l4 hc4
  replace q1 := Lib.hid q1
  replace q2 := Lib.hid q2
  replace l2 := Lib.hid l2
  replace l3 := Lib.hid l3
  replace hn := Lib.hid hn
  replace hgx := Lib.hid hgx
  replace hL := Lib.hid hL
  replace hE := Lib.hid hE
  replace hO := Lib.hid hO
  replace hQ := Lib.hid hQ
  replace hE2 := Lib.hid hE2
  replace HW := Lib.hid HW
  replace HE := Lib.hid HE
  replace HQ := Lib.hid HQ
  replace HK := Lib.hid HK
  replace HP := Lib.hid HP
  replace EG := Lib.hid EG
  replace gxv32 := Lib.hid gxv32
  replace gone := Lib.hid gone
  replace rootv32 := Lib.hid rootv32
  replace yv32 := Lib.hid yv32
  replace hnh := Lib.hid hnh
  replace hnf := Lib.hid hnf
  replace r32 := Lib.hid r32
  replace y32 := Lib.hid y32
  go_enter Tryd.func4, Tryd.ntmps4
  go_upto_region 1 with fail
  rw [← hX.out]
  rw [show ((w.alloc (.cells (trc tot Ah nh ch Af nf cf).toArray 26)).alloc (.cells (hcs root) 28)).alloc (.cells (hcs y) 28) = W from hW.out.symm]
  go_upto_region 2 with (go_at_call 9; refine (HA.out).mono ?_; rintro e w1 ⟨rfl, b1⟩)
  have aX1 := aX.below b1
  have aR1 := aR.below b1
  have aY1 := aY.below b1
  have bw1 := bW.trans (b1.mono bW.size)
  clear HA aX aR aY b1
  go_upto_region 4 with (first
    | ((with_reducible refine wpList_loadF 26 aX1 ?_ _ 3 (rfl) Tryd.underlying26 ?_ ?_ ?_); rfl; rfl; kernel_rfl)
    | (go_at_call 10; refine (HW.out w1).mono ?_; rintro e w2 ⟨rfl, b2⟩))
  have bw2 := bw1.trans (b2.mono bw1.size)
  have aX2 := aX1.below b2
  have aR2 := aR1.below b2
  have aY2 := aY1.below b2
  clear aX1 aR1 aY1 b2 bw1 HW
  go_upto_region 7 with (first
    | ((with_reducible refine wpList_loadF 26 aX2 ?_ _ 3 (rfl) Tryd.underlying26 ?_ ?_ ?_); rfl; rfl; kernel_rfl)
    | (go_at_call 12; refine (HP.out w2).mono ?_; rintro e w3 ⟨rfl, b3⟩; have bw3 := bw2.trans (b3.mono bw2.size))
    | (go_at_call 22; refine (HE.out w3 (hrh.below bw3) (hrf.below bw3) (hT.below bw3)).mono ?_; rintro e w4 ⟨b4, A, c, rfl, hlc, rl4⟩)
    | ((with_reducible refine wpList_storeF 28 ((Below.refl w4.heap.size w4).alloc (Nat.le_refl _) _) (heap_alloc_new _ _) (Nat.le_refl _) (gx.map bv) ?_ ?_ 32 gxv32.out ?_ ?_ ?_ ?_); rfl; rfl; kernel_rfl; rfl; exact gone.out; intro w5 aG b5 k5 z5; clear k5; replace z5 := Lib.hid z5))
  obtain ⟨G, hG⟩ : ∃ G, G = w4.heap.size := ⟨_, rfl⟩
  rw [← hG] at aG ⊢
  replace hG := Lib.hid hG
  have b25 := b3.trans ((b4.trans (b5.mono b4.size)).mono b3.size)
  have bw5 := bw2.trans (b25.mono bw2.size)
  have aX5 := aX2.below b25
  have aR5 := aR2.below b25
  have aY5 := aY2.below b25
  have rl5 := rl4.below b5
  clear aX2 aR2 aY2 b3 b4 b5 b25 bw2 bw3 rl4 HE
  go_wp2
  go_loopw [13, 14, 15] (fun f t i wr => ∃ (j : Nat) (F T : Bool), j ≤ n ∧ f = .bool F ∧ t = .bool T ∧ i = .int .i64 (j : Int) ∧ Hid (F = qF L pos y j) ∧ Hid (T = qT L pos j) ∧ Below w5.heap.size w5 wr) (fun _ _ i _ => n - (intOf i).toNat)
  case atStart => exact ⟨0, false, false, Nat.zero_le _, rfl, rfl, rfl, Lib.hid rfl, Lib.hid rfl, Below.refl _ _⟩
  case round =>
    obtain ⟨j, F, T, hj, rfl, rfl, rfl, hF, hT2, bw⟩ := hrel
    by_cases hlt : j < n
    · have u1 : decide ((j : Int) < (n : Int)) = true := by simp; omega
      have n0 : 0 ≤ (j : Int) := by omega
      have n1 : (j : Int) < (n : Int) := by omega
      obtain ⟨p, hp⟩ : ∃ p, L[j]? = some p := ⟨_, List.getElem?_eq_getElem (by rw [← hn.out]; exact hlt)⟩
      obtain ⟨bX, oX, rfl⟩ := rl5.someA (mlc_ne0 (by rw [← hn.out]; omega))
      have z32 := l2.out p (List.mem_of_getElem? hp)
      have C1 : ∀ w', Below w5.heap.size w5 w' → w'.cell? ⟨bX, oX + j * 33, none⟩ = some (.int .i64 (p.1 : Int)) := fun w' h => ((rl5.below h).match_atq l2.out j p hp).1
      have C2 : ∀ w', Below w5.heap.size w5 w' → w'.rangeAt bX (oX + j * 33 + 1) (p.2.map bv) := fun w' h => ((rl5.below h).match_atq l2.out j p hp).2
      have hF1 := qF_succ L pos y j p hp
      have hT1 := qT_succ L pos j p hp
      rw [← hF.out] at hF1
      rw [← hT2.out] at hT1
      have cr := C1 wr bw
      have aYr := aY5.below bw
      obtain ⟨q, z⟩ := p
      dsimp only at z32 C1 C2 hF1 hT1 cr
      have zv32 : (z.map bv).length = 32 := by rw [List.length_map, z32]
      have ED := fun p q w => eqlHw z y z32 y32.out p q w
      obtain ⟨D, hD⟩ : ∃ D, D = (z == y) := ⟨_, rfl⟩
      obtain ⟨Bq, hB⟩ : ∃ Bq, Bq = ((q : Int) == pos) := ⟨_, rfl⟩
      rw [← hD] at ED hF1
      rw [← hB] at hF1 hT1
      have aYr := aY5.below bw
      clear hF hT2 hp hD z32
      have hF := Lib.hid hF1
      have hT2 := Lib.hid hT1
      clear hF1 hT1
      replace hB := Lib.hid hB
      replace ED := Lib.hid ED
      replace zv32 := Lib.hid zv32
      replace C1 := Lib.hid C1
      replace C2 := Lib.hid C2
      have aYr2 : ∀ w', Below wr.heap.size wr w' → Av w' (X + 2) 28 (y.map bv) := fun w' b => aYr.below b
      replace aYr2 := Lib.hid aYr2
      cases T <;> cases F <;> cases Bq
      · have e1 : ((q : Int) == pos) = false := hB.out.symm
        go_upto_region 11 with fail
        refine wp_region_rel [] Ext (by kernel_rfl) (by kernel_rfl) (by kernel_rfl) Ext.refl Ext.trans (by intro p hp; cases hp) ?_
        refine relMove Ext.refl rfl rfl rfl rfl _ (.inl rfl) (by conv => lhs; whnf) (by simp only [List.set_cons_succ, List.set_cons_zero]; rfl) ?_
        refine relMove Ext.refl rfl rfl rfl rfl _ (.inl rfl) (by conv => lhs; whnf) (by simp only [List.set_cons_succ, List.set_cons_zero]; rfl) ?_
        refine relMove Ext.refl rfl rfl rfl rfl _ (.inl rfl) (by conv => lhs; whnf) (by simp only [List.set_cons_succ, List.set_cons_zero]; rfl) ?_
        refine relMove Ext.refl rfl rfl rfl rfl _ (.inl rfl) (by conv => lhs; whnf) (by simp only [List.set_cons_succ, List.set_cons_zero]; rfl) ?_
        refine relPure Ext.refl rfl rfl rfl rfl (c := .pointer (some ⟨bX, oX + j * 33, none⟩)) (fun w _ => by go_simp; first | done | rfl) (by simp only [List.set_cons_succ, List.set_cons_zero]; rfl) ?_
        refine relPure Ext.refl rfl rfl rfl rfl (c := .pointer (some ⟨bX, oX + j * 33, none⟩)) (fun w _ => by go_simp; first | done | rfl) (by simp only [List.set_cons_succ, List.set_cons_zero]; rfl) ?_
        refine relPure Ext.refl rfl rfl rfl rfl (c := .int .i64 (q : Int)) (fun w hw => by have := C1.out _ (bw.trans (hw.drew.mono bw.size)); go_simp; first | done | rfl) (by simp only [List.set_cons_succ, List.set_cons_zero]; rfl) ?_
        refine relMove Ext.refl rfl rfl rfl rfl _ (.inl rfl) (by conv => lhs; whnf) (by simp only [List.set_cons_succ, List.set_cons_zero]; rfl) ?_
        refine relPure Ext.refl rfl rfl rfl rfl (c := .bool false) (fun w _ => by go_simp; first | done | rfl) (by simp only [List.set_cons_succ, List.set_cons_zero]; rfl) ?_
        refine relMove Ext.refl rfl rfl rfl rfl _ (.inl rfl) (by conv => lhs; whnf) (by simp only [List.set_cons_succ, List.set_cons_zero]; rfl) ?_
        refine relSkip rfl rfl rfl rfl (by simp only [List.set_cons_succ, List.set_cons_zero]; rfl) ?_
        refine relSkip rfl rfl rfl rfl (by simp only [List.set_cons_succ, List.set_cons_zero]; rfl) ?_
        refine relSkip rfl rfl rfl rfl (by simp only [List.set_cons_succ, List.set_cons_zero]; rfl) ?_
        refine relSkip rfl rfl rfl rfl (by simp only [List.set_cons_succ, List.set_cons_zero]; rfl) ?_
        refine relSkip rfl rfl rfl rfl (by simp only [List.set_cons_succ, List.set_cons_zero]; rfl) ?_
        refine relSkip rfl rfl rfl rfl (by simp only [List.set_cons_succ, List.set_cons_zero]; rfl) ?_
        refine relSkip rfl rfl rfl rfl (by simp only [List.set_cons_succ, List.set_cons_zero]; rfl) ?_
        refine relPick Ext.refl rfl rfl rfl rfl _ _ _ rfl rfl (by conv => lhs; whnf) (by simp only [List.set_cons_succ, List.set_cons_zero]; rfl) ?_
        refine relPick Ext.refl rfl rfl rfl rfl _ _ _ rfl rfl (by conv => lhs; whnf) (by simp only [List.set_cons_succ, List.set_cons_zero]; rfl) ?_
        refine relMove Ext.refl rfl rfl rfl rfl _ (.inr rfl) (by conv => lhs; whnf) (by simp only [List.set_cons_succ, List.set_cons_zero]; rfl) ?_
        refine relEnd fun w5 hw5 => fill_end ?_
        have bw5 := bw.trans (hw5.drew.mono bw.size)
        go_wp2
        refine ⟨⟨j + 1, false, false, by omega, rfl, rfl, by go_num, Lib.hid (by rw [hF.out]; rfl), Lib.hid (by rw [hT2.out]; rfl), bw5⟩, ?_⟩
        simp only [intOf]
        omega
      · have e1 : ((q : Int) == pos) = true := hB.out.symm
        go_upto_region 11 with fail
        refine wp_region_rel [] Ext (by kernel_rfl) (by kernel_rfl) (by kernel_rfl) Ext.refl Ext.trans (by intro p hp; cases hp) ?_
        refine relMove Ext.refl rfl rfl rfl rfl _ (.inl rfl) (by conv => lhs; whnf) (by simp only [List.set_cons_succ, List.set_cons_zero]; rfl) ?_
        refine relMove Ext.refl rfl rfl rfl rfl _ (.inl rfl) (by conv => lhs; whnf) (by simp only [List.set_cons_succ, List.set_cons_zero]; rfl) ?_
        refine relMove Ext.refl rfl rfl rfl rfl _ (.inl rfl) (by conv => lhs; whnf) (by simp only [List.set_cons_succ, List.set_cons_zero]; rfl) ?_
        refine relMove Ext.refl rfl rfl rfl rfl _ (.inl rfl) (by conv => lhs; whnf) (by simp only [List.set_cons_succ, List.set_cons_zero]; rfl) ?_
        refine relPure Ext.refl rfl rfl rfl rfl (c := .pointer (some ⟨bX, oX + j * 33, none⟩)) (fun w _ => by go_simp; first | done | rfl) (by simp only [List.set_cons_succ, List.set_cons_zero]; rfl) ?_
        refine relPure Ext.refl rfl rfl rfl rfl (c := .pointer (some ⟨bX, oX + j * 33, none⟩)) (fun w _ => by go_simp; first | done | rfl) (by simp only [List.set_cons_succ, List.set_cons_zero]; rfl) ?_
        refine relPure Ext.refl rfl rfl rfl rfl (c := .int .i64 (q : Int)) (fun w hw => by have := C1.out _ (bw.trans (hw.drew.mono bw.size)); go_simp; first | done | rfl) (by simp only [List.set_cons_succ, List.set_cons_zero]; rfl) ?_
        refine relMove Ext.refl rfl rfl rfl rfl _ (.inl rfl) (by conv => lhs; whnf) (by simp only [List.set_cons_succ, List.set_cons_zero]; rfl) ?_
        refine relPure Ext.refl rfl rfl rfl rfl (c := .bool true) (fun w _ => by go_simp; first | done | rfl) (by simp only [List.set_cons_succ, List.set_cons_zero]; rfl) ?_
        refine relMove Ext.refl rfl rfl rfl rfl _ (.inl rfl) (by conv => lhs; whnf) (by simp only [List.set_cons_succ, List.set_cons_zero]; rfl) ?_
        refine relMove Ext.refl rfl rfl rfl rfl _ (.inl rfl) (by conv => lhs; whnf) (by simp only [List.set_cons_succ, List.set_cons_zero]; rfl) ?_
        refine relMove Ext.refl rfl rfl rfl rfl _ (.inl rfl) (by conv => lhs; whnf) (by simp only [List.set_cons_succ, List.set_cons_zero]; rfl) ?_
        refine relPure Ext.refl rfl rfl rfl rfl (c := .pointer (some ⟨bX, oX + j * 33, none⟩)) (fun w _ => by go_simp; first | done | rfl) (by simp only [List.set_cons_succ, List.set_cons_zero]; rfl) ?_
        refine relPure Ext.refl rfl rfl rfl rfl (c := .pointer (some ⟨bX, oX + j * 33 + 1, none⟩)) (fun w _ => by go_simp; first | done | rfl) (by simp only [List.set_cons_succ, List.set_cons_zero]; rfl) ?_
        refine relPure Ext.refl rfl rfl rfl rfl (c := .agg (hcs z)) (fun w hw => exec_load_mid _ _ rfl bX (oX + j * 33 + 1) rfl (z.map bv) _ (C2.out _ (bw.trans (hw.drew.mono bw.size))) Tryd.underlying28 rfl (by rw [zv32.out]; kernel_rfl)) (by simp only [List.set_cons_succ, List.set_cons_zero]; rfl) ?_
        refine relPure Ext.refl rfl rfl rfl rfl (c := .agg (hcs y)) (fun w hw => exec_loadAv (aYr.below hw.drew) _ _ rfl rfl _ 32 yv32.out Tryd.underlying28 rfl (by kernel_rfl)) (by simp only [List.set_cons_succ, List.set_cons_zero]; rfl) ?_
        refine relBin Ext.refl rfl rfl rfl rfl _ _ _ _ _ rfl (by conv => lhs; whnf) (by conv => lhs; whnf) (c := .bool D) (fun w => ED.out _ _ w) (by simp only [List.set_cons_succ, List.set_cons_zero]; rfl) ?_
        refine relPick Ext.refl rfl rfl rfl rfl _ _ _ rfl rfl (by conv => lhs; whnf) (by simp only [List.set_cons_succ, List.set_cons_zero]; rfl) ?_
        refine relPick Ext.refl rfl rfl rfl rfl _ _ _ rfl rfl (by conv => lhs; whnf) (by simp only [List.set_cons_succ, List.set_cons_zero]; rfl) ?_
        refine relMove Ext.refl rfl rfl rfl rfl _ (.inr rfl) (by conv => lhs; whnf) (by simp only [List.set_cons_succ, List.set_cons_zero]; rfl) ?_
        refine relEnd fun w5 hw5 => fill_end ?_
        have bw5 := bw.trans (hw5.drew.mono bw.size)
        go_wp2
        refine ⟨⟨j + 1, D, true, by omega, rfl, rfl, by go_num, Lib.hid (by rw [hF.out]; rfl), Lib.hid (by rw [hT2.out]; rfl), bw5⟩, ?_⟩
        simp only [intOf]
        omega
      · have e1 : ((q : Int) == pos) = false := hB.out.symm
        go_upto_region 11 with fail
        refine wp_region_rel [] Ext (by kernel_rfl) (by kernel_rfl) (by kernel_rfl) Ext.refl Ext.trans (by intro p hp; cases hp) ?_
        refine relMove Ext.refl rfl rfl rfl rfl _ (.inl rfl) (by conv => lhs; whnf) (by simp only [List.set_cons_succ, List.set_cons_zero]; rfl) ?_
        refine relMove Ext.refl rfl rfl rfl rfl _ (.inl rfl) (by conv => lhs; whnf) (by simp only [List.set_cons_succ, List.set_cons_zero]; rfl) ?_
        refine relSkip rfl rfl rfl rfl (by simp only [List.set_cons_succ, List.set_cons_zero]; rfl) ?_
        refine relSkip rfl rfl rfl rfl (by simp only [List.set_cons_succ, List.set_cons_zero]; rfl) ?_
        refine relSkip rfl rfl rfl rfl (by simp only [List.set_cons_succ, List.set_cons_zero]; rfl) ?_
        refine relSkip rfl rfl rfl rfl (by simp only [List.set_cons_succ, List.set_cons_zero]; rfl) ?_
        refine relSkip rfl rfl rfl rfl (by simp only [List.set_cons_succ, List.set_cons_zero]; rfl) ?_
        refine relSkip rfl rfl rfl rfl (by simp only [List.set_cons_succ, List.set_cons_zero]; rfl) ?_
        refine relSkip rfl rfl rfl rfl (by simp only [List.set_cons_succ, List.set_cons_zero]; rfl) ?_
        refine relSkip rfl rfl rfl rfl (by simp only [List.set_cons_succ, List.set_cons_zero]; rfl) ?_
        refine relSkipU rfl rfl (by kernel_rfl) rfl (by simp only [List.set_cons_succ, List.set_cons_zero]; rfl) ?_
        refine relSkipU rfl rfl (by kernel_rfl) rfl (by simp only [List.set_cons_succ, List.set_cons_zero]; rfl) ?_
        refine relSkipU rfl rfl (by kernel_rfl) rfl (by simp only [List.set_cons_succ, List.set_cons_zero]; rfl) ?_
        refine relSkipU rfl rfl (by kernel_rfl) rfl (by simp only [List.set_cons_succ, List.set_cons_zero]; rfl) ?_
        refine relSkipU rfl rfl (by kernel_rfl) rfl (by simp only [List.set_cons_succ, List.set_cons_zero]; rfl) ?_
        refine relSkipU rfl rfl (by kernel_rfl) rfl (by simp only [List.set_cons_succ, List.set_cons_zero]; rfl) ?_
        refine relSkipU rfl rfl (by kernel_rfl) rfl (by simp only [List.set_cons_succ, List.set_cons_zero]; rfl) ?_
        refine relSkip rfl rfl rfl rfl (by simp only [List.set_cons_succ, List.set_cons_zero]; rfl) ?_
        refine relPick Ext.refl rfl rfl rfl rfl _ _ _ rfl rfl (by conv => lhs; whnf) (by simp only [List.set_cons_succ, List.set_cons_zero]; rfl) ?_
        refine relMove Ext.refl rfl rfl rfl rfl _ (.inr rfl) (by conv => lhs; whnf) (by simp only [List.set_cons_succ, List.set_cons_zero]; rfl) ?_
        refine relEnd fun w5 hw5 => fill_end ?_
        have bw5 := bw.trans (hw5.drew.mono bw.size)
        go_wp2
        refine ⟨⟨j + 1, true, false, by omega, rfl, rfl, by go_num, Lib.hid (by rw [hF.out]; rfl), Lib.hid (by rw [hT2.out]; rfl), bw5⟩, ?_⟩
        simp only [intOf]
        omega
      · have e1 : ((q : Int) == pos) = true := hB.out.symm
        go_upto_region 11 with fail
        refine wp_region_rel [] Ext (by kernel_rfl) (by kernel_rfl) (by kernel_rfl) Ext.refl Ext.trans (by intro p hp; cases hp) ?_
        refine relMove Ext.refl rfl rfl rfl rfl _ (.inl rfl) (by conv => lhs; whnf) (by simp only [List.set_cons_succ, List.set_cons_zero]; rfl) ?_
        refine relMove Ext.refl rfl rfl rfl rfl _ (.inl rfl) (by conv => lhs; whnf) (by simp only [List.set_cons_succ, List.set_cons_zero]; rfl) ?_
        refine relSkip rfl rfl rfl rfl (by simp only [List.set_cons_succ, List.set_cons_zero]; rfl) ?_
        refine relSkip rfl rfl rfl rfl (by simp only [List.set_cons_succ, List.set_cons_zero]; rfl) ?_
        refine relSkip rfl rfl rfl rfl (by simp only [List.set_cons_succ, List.set_cons_zero]; rfl) ?_
        refine relSkip rfl rfl rfl rfl (by simp only [List.set_cons_succ, List.set_cons_zero]; rfl) ?_
        refine relSkip rfl rfl rfl rfl (by simp only [List.set_cons_succ, List.set_cons_zero]; rfl) ?_
        refine relSkip rfl rfl rfl rfl (by simp only [List.set_cons_succ, List.set_cons_zero]; rfl) ?_
        refine relSkip rfl rfl rfl rfl (by simp only [List.set_cons_succ, List.set_cons_zero]; rfl) ?_
        refine relSkip rfl rfl rfl rfl (by simp only [List.set_cons_succ, List.set_cons_zero]; rfl) ?_
        refine relSkipU rfl rfl (by kernel_rfl) rfl (by simp only [List.set_cons_succ, List.set_cons_zero]; rfl) ?_
        refine relSkipU rfl rfl (by kernel_rfl) rfl (by simp only [List.set_cons_succ, List.set_cons_zero]; rfl) ?_
        refine relSkipU rfl rfl (by kernel_rfl) rfl (by simp only [List.set_cons_succ, List.set_cons_zero]; rfl) ?_
        refine relSkipU rfl rfl (by kernel_rfl) rfl (by simp only [List.set_cons_succ, List.set_cons_zero]; rfl) ?_
        refine relSkipU rfl rfl (by kernel_rfl) rfl (by simp only [List.set_cons_succ, List.set_cons_zero]; rfl) ?_
        refine relSkipU rfl rfl (by kernel_rfl) rfl (by simp only [List.set_cons_succ, List.set_cons_zero]; rfl) ?_
        refine relSkipU rfl rfl (by kernel_rfl) rfl (by simp only [List.set_cons_succ, List.set_cons_zero]; rfl) ?_
        refine relSkip rfl rfl rfl rfl (by simp only [List.set_cons_succ, List.set_cons_zero]; rfl) ?_
        refine relPick Ext.refl rfl rfl rfl rfl _ _ _ rfl rfl (by conv => lhs; whnf) (by simp only [List.set_cons_succ, List.set_cons_zero]; rfl) ?_
        refine relMove Ext.refl rfl rfl rfl rfl _ (.inr rfl) (by conv => lhs; whnf) (by simp only [List.set_cons_succ, List.set_cons_zero]; rfl) ?_
        refine relEnd fun w5 hw5 => fill_end ?_
        have bw5 := bw.trans (hw5.drew.mono bw.size)
        go_wp2
        refine ⟨⟨j + 1, true, true, by omega, rfl, rfl, by go_num, Lib.hid (by rw [hF.out]; rfl), Lib.hid (by rw [hT2.out]; rfl), bw5⟩, ?_⟩
        simp only [intOf]
        omega
      · have e1 : ((q : Int) == pos) = false := hB.out.symm
        go_upto_region 11 with fail
        refine wp_region_rel [] Ext (by kernel_rfl) (by kernel_rfl) (by kernel_rfl) Ext.refl Ext.trans (by intro p hp; cases hp) ?_
        refine relMove Ext.refl rfl rfl rfl rfl _ (.inl rfl) (by conv => lhs; whnf) (by simp only [List.set_cons_succ, List.set_cons_zero]; rfl) ?_
        refine relMove Ext.refl rfl rfl rfl rfl _ (.inl rfl) (by conv => lhs; whnf) (by simp only [List.set_cons_succ, List.set_cons_zero]; rfl) ?_
        refine relMove Ext.refl rfl rfl rfl rfl _ (.inl rfl) (by conv => lhs; whnf) (by simp only [List.set_cons_succ, List.set_cons_zero]; rfl) ?_
        refine relMove Ext.refl rfl rfl rfl rfl _ (.inl rfl) (by conv => lhs; whnf) (by simp only [List.set_cons_succ, List.set_cons_zero]; rfl) ?_
        refine relPure Ext.refl rfl rfl rfl rfl (c := .pointer (some ⟨bX, oX + j * 33, none⟩)) (fun w _ => by go_simp; first | done | rfl) (by simp only [List.set_cons_succ, List.set_cons_zero]; rfl) ?_
        refine relPure Ext.refl rfl rfl rfl rfl (c := .pointer (some ⟨bX, oX + j * 33, none⟩)) (fun w _ => by go_simp; first | done | rfl) (by simp only [List.set_cons_succ, List.set_cons_zero]; rfl) ?_
        refine relPure Ext.refl rfl rfl rfl rfl (c := .int .i64 (q : Int)) (fun w hw => by have := C1.out _ (bw.trans (hw.drew.mono bw.size)); go_simp; first | done | rfl) (by simp only [List.set_cons_succ, List.set_cons_zero]; rfl) ?_
        refine relMove Ext.refl rfl rfl rfl rfl _ (.inl rfl) (by conv => lhs; whnf) (by simp only [List.set_cons_succ, List.set_cons_zero]; rfl) ?_
        refine relPure Ext.refl rfl rfl rfl rfl (c := .bool false) (fun w _ => by go_simp; first | done | rfl) (by simp only [List.set_cons_succ, List.set_cons_zero]; rfl) ?_
        refine relMove Ext.refl rfl rfl rfl rfl _ (.inl rfl) (by conv => lhs; whnf) (by simp only [List.set_cons_succ, List.set_cons_zero]; rfl) ?_
        refine relSkip rfl rfl rfl rfl (by simp only [List.set_cons_succ, List.set_cons_zero]; rfl) ?_
        refine relSkip rfl rfl rfl rfl (by simp only [List.set_cons_succ, List.set_cons_zero]; rfl) ?_
        refine relSkip rfl rfl rfl rfl (by simp only [List.set_cons_succ, List.set_cons_zero]; rfl) ?_
        refine relSkip rfl rfl rfl rfl (by simp only [List.set_cons_succ, List.set_cons_zero]; rfl) ?_
        refine relSkip rfl rfl rfl rfl (by simp only [List.set_cons_succ, List.set_cons_zero]; rfl) ?_
        refine relSkip rfl rfl rfl rfl (by simp only [List.set_cons_succ, List.set_cons_zero]; rfl) ?_
        refine relSkip rfl rfl rfl rfl (by simp only [List.set_cons_succ, List.set_cons_zero]; rfl) ?_
        refine relPick Ext.refl rfl rfl rfl rfl _ _ _ rfl rfl (by conv => lhs; whnf) (by simp only [List.set_cons_succ, List.set_cons_zero]; rfl) ?_
        refine relPick Ext.refl rfl rfl rfl rfl _ _ _ rfl rfl (by conv => lhs; whnf) (by simp only [List.set_cons_succ, List.set_cons_zero]; rfl) ?_
        refine relMove Ext.refl rfl rfl rfl rfl _ (.inr rfl) (by conv => lhs; whnf) (by simp only [List.set_cons_succ, List.set_cons_zero]; rfl) ?_
        refine relEnd fun w5 hw5 => fill_end ?_
        have bw5 := bw.trans (hw5.drew.mono bw.size)
        go_wp2
        refine ⟨⟨j + 1, false, true, by omega, rfl, rfl, by go_num, Lib.hid (by rw [hF.out]; rfl), Lib.hid (by rw [hT2.out]; rfl), bw5⟩, ?_⟩
        simp only [intOf]
        omega
      · have e1 : ((q : Int) == pos) = true := hB.out.symm
        go_upto_region 11 with fail
        refine wp_region_rel [] Ext (by kernel_rfl) (by kernel_rfl) (by kernel_rfl) Ext.refl Ext.trans (by intro p hp; cases hp) ?_
        refine relMove Ext.refl rfl rfl rfl rfl _ (.inl rfl) (by conv => lhs; whnf) (by simp only [List.set_cons_succ, List.set_cons_zero]; rfl) ?_
        refine relMove Ext.refl rfl rfl rfl rfl _ (.inl rfl) (by conv => lhs; whnf) (by simp only [List.set_cons_succ, List.set_cons_zero]; rfl) ?_
        refine relMove Ext.refl rfl rfl rfl rfl _ (.inl rfl) (by conv => lhs; whnf) (by simp only [List.set_cons_succ, List.set_cons_zero]; rfl) ?_
        refine relMove Ext.refl rfl rfl rfl rfl _ (.inl rfl) (by conv => lhs; whnf) (by simp only [List.set_cons_succ, List.set_cons_zero]; rfl) ?_
        refine relPure Ext.refl rfl rfl rfl rfl (c := .pointer (some ⟨bX, oX + j * 33, none⟩)) (fun w _ => by go_simp; first | done | rfl) (by simp only [List.set_cons_succ, List.set_cons_zero]; rfl) ?_
        refine relPure Ext.refl rfl rfl rfl rfl (c := .pointer (some ⟨bX, oX + j * 33, none⟩)) (fun w _ => by go_simp; first | done | rfl) (by simp only [List.set_cons_succ, List.set_cons_zero]; rfl) ?_
        refine relPure Ext.refl rfl rfl rfl rfl (c := .int .i64 (q : Int)) (fun w hw => by have := C1.out _ (bw.trans (hw.drew.mono bw.size)); go_simp; first | done | rfl) (by simp only [List.set_cons_succ, List.set_cons_zero]; rfl) ?_
        refine relMove Ext.refl rfl rfl rfl rfl _ (.inl rfl) (by conv => lhs; whnf) (by simp only [List.set_cons_succ, List.set_cons_zero]; rfl) ?_
        refine relPure Ext.refl rfl rfl rfl rfl (c := .bool true) (fun w _ => by go_simp; first | done | rfl) (by simp only [List.set_cons_succ, List.set_cons_zero]; rfl) ?_
        refine relMove Ext.refl rfl rfl rfl rfl _ (.inl rfl) (by conv => lhs; whnf) (by simp only [List.set_cons_succ, List.set_cons_zero]; rfl) ?_
        refine relMove Ext.refl rfl rfl rfl rfl _ (.inl rfl) (by conv => lhs; whnf) (by simp only [List.set_cons_succ, List.set_cons_zero]; rfl) ?_
        refine relMove Ext.refl rfl rfl rfl rfl _ (.inl rfl) (by conv => lhs; whnf) (by simp only [List.set_cons_succ, List.set_cons_zero]; rfl) ?_
        refine relPure Ext.refl rfl rfl rfl rfl (c := .pointer (some ⟨bX, oX + j * 33, none⟩)) (fun w _ => by go_simp; first | done | rfl) (by simp only [List.set_cons_succ, List.set_cons_zero]; rfl) ?_
        refine relPure Ext.refl rfl rfl rfl rfl (c := .pointer (some ⟨bX, oX + j * 33 + 1, none⟩)) (fun w _ => by go_simp; first | done | rfl) (by simp only [List.set_cons_succ, List.set_cons_zero]; rfl) ?_
        refine relPure Ext.refl rfl rfl rfl rfl (c := .agg (hcs z)) (fun w hw => exec_load_mid _ _ rfl bX (oX + j * 33 + 1) rfl (z.map bv) _ (C2.out _ (bw.trans (hw.drew.mono bw.size))) Tryd.underlying28 rfl (by rw [zv32.out]; kernel_rfl)) (by simp only [List.set_cons_succ, List.set_cons_zero]; rfl) ?_
        refine relPure Ext.refl rfl rfl rfl rfl (c := .agg (hcs y)) (fun w hw => exec_loadAv (aYr.below hw.drew) _ _ rfl rfl _ 32 yv32.out Tryd.underlying28 rfl (by kernel_rfl)) (by simp only [List.set_cons_succ, List.set_cons_zero]; rfl) ?_
        refine relBin Ext.refl rfl rfl rfl rfl _ _ _ _ _ rfl (by conv => lhs; whnf) (by conv => lhs; whnf) (c := .bool D) (fun w => ED.out _ _ w) (by simp only [List.set_cons_succ, List.set_cons_zero]; rfl) ?_
        refine relPick Ext.refl rfl rfl rfl rfl _ _ _ rfl rfl (by conv => lhs; whnf) (by simp only [List.set_cons_succ, List.set_cons_zero]; rfl) ?_
        refine relPick Ext.refl rfl rfl rfl rfl _ _ _ rfl rfl (by conv => lhs; whnf) (by simp only [List.set_cons_succ, List.set_cons_zero]; rfl) ?_
        refine relMove Ext.refl rfl rfl rfl rfl _ (.inr rfl) (by conv => lhs; whnf) (by simp only [List.set_cons_succ, List.set_cons_zero]; rfl) ?_
        refine relEnd fun w5 hw5 => fill_end ?_
        have bw5 := bw.trans (hw5.drew.mono bw.size)
        go_wp2
        refine ⟨⟨j + 1, D, true, by omega, rfl, rfl, by go_num, Lib.hid (by rw [hF.out]; rfl), Lib.hid (by rw [hT2.out]; rfl), bw5⟩, ?_⟩
        simp only [intOf]
        omega
      · have e1 : ((q : Int) == pos) = false := hB.out.symm
        go_upto_region 11 with fail
        refine wp_region_rel [] Ext (by kernel_rfl) (by kernel_rfl) (by kernel_rfl) Ext.refl Ext.trans (by intro p hp; cases hp) ?_
        refine relMove Ext.refl rfl rfl rfl rfl _ (.inl rfl) (by conv => lhs; whnf) (by simp only [List.set_cons_succ, List.set_cons_zero]; rfl) ?_
        refine relMove Ext.refl rfl rfl rfl rfl _ (.inl rfl) (by conv => lhs; whnf) (by simp only [List.set_cons_succ, List.set_cons_zero]; rfl) ?_
        refine relSkip rfl rfl rfl rfl (by simp only [List.set_cons_succ, List.set_cons_zero]; rfl) ?_
        refine relSkip rfl rfl rfl rfl (by simp only [List.set_cons_succ, List.set_cons_zero]; rfl) ?_
        refine relSkip rfl rfl rfl rfl (by simp only [List.set_cons_succ, List.set_cons_zero]; rfl) ?_
        refine relSkip rfl rfl rfl rfl (by simp only [List.set_cons_succ, List.set_cons_zero]; rfl) ?_
        refine relSkip rfl rfl rfl rfl (by simp only [List.set_cons_succ, List.set_cons_zero]; rfl) ?_
        refine relSkip rfl rfl rfl rfl (by simp only [List.set_cons_succ, List.set_cons_zero]; rfl) ?_
        refine relSkip rfl rfl rfl rfl (by simp only [List.set_cons_succ, List.set_cons_zero]; rfl) ?_
        refine relSkip rfl rfl rfl rfl (by simp only [List.set_cons_succ, List.set_cons_zero]; rfl) ?_
        refine relSkipU rfl rfl (by kernel_rfl) rfl (by simp only [List.set_cons_succ, List.set_cons_zero]; rfl) ?_
        refine relSkipU rfl rfl (by kernel_rfl) rfl (by simp only [List.set_cons_succ, List.set_cons_zero]; rfl) ?_
        refine relSkipU rfl rfl (by kernel_rfl) rfl (by simp only [List.set_cons_succ, List.set_cons_zero]; rfl) ?_
        refine relSkipU rfl rfl (by kernel_rfl) rfl (by simp only [List.set_cons_succ, List.set_cons_zero]; rfl) ?_
        refine relSkipU rfl rfl (by kernel_rfl) rfl (by simp only [List.set_cons_succ, List.set_cons_zero]; rfl) ?_
        refine relSkipU rfl rfl (by kernel_rfl) rfl (by simp only [List.set_cons_succ, List.set_cons_zero]; rfl) ?_
        refine relSkipU rfl rfl (by kernel_rfl) rfl (by simp only [List.set_cons_succ, List.set_cons_zero]; rfl) ?_
        refine relSkip rfl rfl rfl rfl (by simp only [List.set_cons_succ, List.set_cons_zero]; rfl) ?_
        refine relPick Ext.refl rfl rfl rfl rfl _ _ _ rfl rfl (by conv => lhs; whnf) (by simp only [List.set_cons_succ, List.set_cons_zero]; rfl) ?_
        refine relMove Ext.refl rfl rfl rfl rfl _ (.inr rfl) (by conv => lhs; whnf) (by simp only [List.set_cons_succ, List.set_cons_zero]; rfl) ?_
        refine relEnd fun w5 hw5 => fill_end ?_
        have bw5 := bw.trans (hw5.drew.mono bw.size)
        go_wp2
        refine ⟨⟨j + 1, true, true, by omega, rfl, rfl, by go_num, Lib.hid (by rw [hF.out]; rfl), Lib.hid (by rw [hT2.out]; rfl), bw5⟩, ?_⟩
        simp only [intOf]
        omega
      · have e1 : ((q : Int) == pos) = true := hB.out.symm
        go_upto_region 11 with fail
        refine wp_region_rel [] Ext (by kernel_rfl) (by kernel_rfl) (by kernel_rfl) Ext.refl Ext.trans (by intro p hp; cases hp) ?_
        refine relMove Ext.refl rfl rfl rfl rfl _ (.inl rfl) (by conv => lhs; whnf) (by simp only [List.set_cons_succ, List.set_cons_zero]; rfl) ?_
        refine relMove Ext.refl rfl rfl rfl rfl _ (.inl rfl) (by conv => lhs; whnf) (by simp only [List.set_cons_succ, List.set_cons_zero]; rfl) ?_
        refine relSkip rfl rfl rfl rfl (by simp only [List.set_cons_succ, List.set_cons_zero]; rfl) ?_
        refine relSkip rfl rfl rfl rfl (by simp only [List.set_cons_succ, List.set_cons_zero]; rfl) ?_
        refine relSkip rfl rfl rfl rfl (by simp only [List.set_cons_succ, List.set_cons_zero]; rfl) ?_
        refine relSkip rfl rfl rfl rfl (by simp only [List.set_cons_succ, List.set_cons_zero]; rfl) ?_
        refine relSkip rfl rfl rfl rfl (by simp only [List.set_cons_succ, List.set_cons_zero]; rfl) ?_
        refine relSkip rfl rfl rfl rfl (by simp only [List.set_cons_succ, List.set_cons_zero]; rfl) ?_
        refine relSkip rfl rfl rfl rfl (by simp only [List.set_cons_succ, List.set_cons_zero]; rfl) ?_
        refine relSkip rfl rfl rfl rfl (by simp only [List.set_cons_succ, List.set_cons_zero]; rfl) ?_
        refine relSkipU rfl rfl (by kernel_rfl) rfl (by simp only [List.set_cons_succ, List.set_cons_zero]; rfl) ?_
        refine relSkipU rfl rfl (by kernel_rfl) rfl (by simp only [List.set_cons_succ, List.set_cons_zero]; rfl) ?_
        refine relSkipU rfl rfl (by kernel_rfl) rfl (by simp only [List.set_cons_succ, List.set_cons_zero]; rfl) ?_
        refine relSkipU rfl rfl (by kernel_rfl) rfl (by simp only [List.set_cons_succ, List.set_cons_zero]; rfl) ?_
        refine relSkipU rfl rfl (by kernel_rfl) rfl (by simp only [List.set_cons_succ, List.set_cons_zero]; rfl) ?_
        refine relSkipU rfl rfl (by kernel_rfl) rfl (by simp only [List.set_cons_succ, List.set_cons_zero]; rfl) ?_
        refine relSkipU rfl rfl (by kernel_rfl) rfl (by simp only [List.set_cons_succ, List.set_cons_zero]; rfl) ?_
        refine relSkip rfl rfl rfl rfl (by simp only [List.set_cons_succ, List.set_cons_zero]; rfl) ?_
        refine relPick Ext.refl rfl rfl rfl rfl _ _ _ rfl rfl (by conv => lhs; whnf) (by simp only [List.set_cons_succ, List.set_cons_zero]; rfl) ?_
        refine relMove Ext.refl rfl rfl rfl rfl _ (.inr rfl) (by conv => lhs; whnf) (by simp only [List.set_cons_succ, List.set_cons_zero]; rfl) ?_
        refine relEnd fun w5 hw5 => fill_end ?_
        have bw5 := bw.trans (hw5.drew.mono bw.size)
        go_wp2
        refine ⟨⟨j + 1, true, true, by omega, rfl, rfl, by go_num, Lib.hid (by rw [hF.out]; rfl), Lib.hid (by rw [hT2.out]; rfl), bw5⟩, ?_⟩
        simp only [intOf]
        omega
    · obtain rfl : j = n := by omega
      have u1 : decide ((j : Int) < (j : Int)) = false := by simp
      have hQ2 := q1.out
      have hO2 := q2.out
      rw [← hF.out] at hQ2
      rw [← hT2.out] at hO2
      have bwr := bw5.trans (bw.mono bw5.size)
      have aX6 := aX5.below bw
      have aR6 := aR5.below bw
      have aY6 := aY5.below bw
      have aG6 := aG.below bw
      clear hF hT2
      replace hQ2 := Lib.hid hQ2
      replace hO2 := Lib.hid hO2
      go_upto_region 13 with (first
        | ((with_reducible refine wpList_loadF 26 aX6 ?_ _ 3 (rfl) Tryd.underlying26 ?_ ?_ ?_); rfl; rfl; kernel_rfl)
        | (go_at_call 12; refine (HP.out wr).mono ?_; rintro e w6 ⟨rfl, b6⟩; have bw6 := bwr.trans (b6.mono bwr.size))
        | (go_at_call 11; refine (HQ.out w6 (hrh.below bw6) (hrf.below bw6) (hT.below bw6)).mono ?_; rintro e w8 ⟨b8, A8, m8, c8, rfl, hm8, _, _⟩))
      have b68 := b6.trans (b8.mono b6.size)
      have bw8 := bwr.trans (b68.mono bwr.size)
      have aX8 := aX6.below b68
      have aR8 := aR6.below b68
      have aY8 := aY6.below b68
      have aG8 := aG6.below b68
      clear aX6 aR6 aY6 aG6 b6 b8 b68 bw6 bwr aX5 aR5 aY5 aG HQ
      have hO3 := hO2.out
      subst hO3
      have hQ3 := hQ2.out
      rcases hE2.out with e0 | e0
      · have e1 : (E == 0) = true := by rw [e0]; rfl
        have e2 : ((0 : Int) == 0) = true := rfl
        rw [e1, Bool.true_and] at hQ3
        cases c4 with
        | false =>
          rw [Bool.false_and] at hQ3
          subst hQ3
          subst e0
          clear hQ2 hO2 hE hQ hO hE2 q1 q2
          cases O
          · refine wp_region_rel [] Ext (by kernel_rfl) (by kernel_rfl) (by kernel_rfl) Ext.refl Ext.trans (by intro p hp; cases hp) ?_
            refine relMove Ext.refl rfl rfl rfl rfl _ (.inl rfl) (by conv => lhs; whnf) (by simp only [List.set_cons_succ, List.set_cons_zero]; rfl) ?_
            refine relMove Ext.refl rfl rfl rfl rfl _ (.inl rfl) (by conv => lhs; whnf) (by simp only [List.set_cons_succ, List.set_cons_zero]; rfl) ?_
            refine relPure Ext.refl rfl rfl rfl rfl (c := .agg ((trc tot Ah nh ch Af nf cf)).toArray) (fun w hw => exec_loadAv (aX8.below hw.drew) _ _ rfl rfl _ 3 rfl Tryd.underlying26 rfl (by kernel_rfl)) (by simp only [List.set_cons_succ, List.set_cons_zero]; rfl) ?_
            refine relCall1 rfl rfl rfl rfl (c := .agg (trc tot Ah nh ch Af nf cf).toArray) 12 #[.agg (trc tot Ah nh ch Af nf cf).toArray] (fun w => by go_simp) (fun w hw => (HP.out w).mono ?_) (by simp only [List.set_cons_succ, List.set_cons_zero]; rfl) ?_
            · rintro e w' ⟨rfl, b⟩
              exact ⟨rfl, b⟩
            refine relPure Ext.refl rfl rfl rfl rfl (c := .agg (hcs root)) (fun w hw => exec_loadAv (aR8.below hw.drew) _ _ rfl rfl _ 32 rootv32.out Tryd.underlying28 rfl (by kernel_rfl)) (by simp only [List.set_cons_succ, List.set_cons_zero]; rfl) ?_
            refine relMove Ext.refl rfl rfl rfl rfl _ (.inl rfl) (by conv => lhs; whnf) (by simp only [List.set_cons_succ, List.set_cons_zero]; rfl) ?_
            refine relPure Ext.refl rfl rfl rfl rfl (c := .agg (hcs y)) (fun w hw => exec_loadAv (aY8.below hw.drew) _ _ rfl rfl _ 32 yv32.out Tryd.underlying28 rfl (by kernel_rfl)) (by simp only [List.set_cons_succ, List.set_cons_zero]; rfl) ?_
            refine relCall1 rfl rfl rfl rfl (c := .bool false) 17 #[.agg (trc tot Ah nh ch Af nf cf).toArray, .agg (hcs root), .int .i64 pos, .agg (hcs y)] (fun w => by go_simp) (fun w hw => (HK.out w (hrh.below (bw8.trans (hw.drew.mono bw8.size))) (hrf.below (bw8.trans (hw.drew.mono bw8.size))) (hT.below (bw8.trans (hw.drew.mono bw8.size)))).mono ?_) (by simp only [List.set_cons_succ, List.set_cons_zero]; rfl) ?_
            · rintro e w' ⟨rfl, b⟩
              exact ⟨rfl, b⟩
            refine relMove Ext.refl rfl rfl rfl rfl _ (.inl rfl) (by conv => lhs; whnf) (by simp only [List.set_cons_succ, List.set_cons_zero]; rfl) ?_
            refine relPure Ext.refl rfl rfl rfl rfl (c := .bool true) (fun w _ => by go_simp; first | done | rfl) (by simp only [List.set_cons_succ, List.set_cons_zero]; rfl) ?_
            refine relMove Ext.refl rfl rfl rfl rfl _ (.inl rfl) (by conv => lhs; whnf) (by simp only [List.set_cons_succ, List.set_cons_zero]; rfl) ?_
            refine relPure Ext.refl rfl rfl rfl rfl (c := .agg (hcs gx)) (fun w hw => exec_loadAv (aG8.below hw.drew) _ _ rfl rfl _ 32 gxv32.out Tryd.underlying28 rfl (by kernel_rfl)) (by simp only [List.set_cons_succ, List.set_cons_zero]; rfl) ?_
            refine relPure Ext.refl rfl rfl rfl rfl (c := .agg (hcs root)) (fun w hw => exec_loadAv (aR8.below hw.drew) _ _ rfl rfl _ 32 rootv32.out Tryd.underlying28 rfl (by kernel_rfl)) (by simp only [List.set_cons_succ, List.set_cons_zero]; rfl) ?_
            refine relBin Ext.refl rfl rfl rfl rfl _ _ _ _ _ rfl (by conv => lhs; whnf) (by conv => lhs; whnf) (c := .bool false) (fun w => EG.out _ _ w) (by simp only [List.set_cons_succ, List.set_cons_zero]; rfl) ?_
            refine relPick Ext.refl rfl rfl rfl rfl _ _ _ rfl rfl (by conv => lhs; whnf) (by simp only [List.set_cons_succ, List.set_cons_zero]; rfl) ?_
            refine relMove Ext.refl rfl rfl rfl rfl _ (.inl rfl) (by conv => lhs; whnf) (by simp only [List.set_cons_succ, List.set_cons_zero]; rfl) ?_
            refine relSkip rfl rfl rfl rfl (by simp only [List.set_cons_succ, List.set_cons_zero]; rfl) ?_
            refine relPick Ext.refl rfl rfl rfl rfl _ _ _ rfl rfl (by conv => lhs; whnf) (by simp only [List.set_cons_succ, List.set_cons_zero]; rfl) ?_
            refine relPure Ext.refl rfl rfl rfl rfl (c := .bool true) (fun w _ => by go_simp; first | done | rfl) (by simp only [List.set_cons_succ, List.set_cons_zero]; rfl) ?_
            refine relPick Ext.refl rfl rfl rfl rfl _ _ _ rfl rfl (by conv => lhs; whnf) (by simp only [List.set_cons_succ, List.set_cons_zero]; rfl) ?_
            refine relMove Ext.refl rfl rfl rfl rfl _ (.inl rfl) (by conv => lhs; whnf) (by simp only [List.set_cons_succ, List.set_cons_zero]; rfl) ?_
            refine relMove Ext.refl rfl rfl rfl rfl _ (.inl rfl) (by conv => lhs; whnf) (by simp only [List.set_cons_succ, List.set_cons_zero]; rfl) ?_
            refine relMove Ext.refl rfl rfl rfl rfl _ (.inl rfl) (by conv => lhs; whnf) (by simp only [List.set_cons_succ, List.set_cons_zero]; rfl) ?_
            refine relPure Ext.refl rfl rfl rfl rfl (c := .bool true) (fun w _ => by go_simp; first | done | rfl) (by simp only [List.set_cons_succ, List.set_cons_zero]; rfl) ?_
            refine relPick Ext.refl rfl rfl rfl rfl _ _ _ rfl rfl (by conv => lhs; whnf) (by simp only [List.set_cons_succ, List.set_cons_zero]; rfl) ?_
            refine relMove Ext.refl rfl rfl rfl rfl _ (.inr rfl) (by conv => lhs; whnf) (by simp only [List.set_cons_succ, List.set_cons_zero]; rfl) ?_
            refine relEnd fun w9 hw9 => fill_end ?_
            have bw9 := bw8.trans (hw9.drew.mono bw8.size)
            go_wp2
            go_ret
            exact ⟨rfl, bw9⟩
          · refine wp_region_rel [] Ext (by kernel_rfl) (by kernel_rfl) (by kernel_rfl) Ext.refl Ext.trans (by intro p hp; cases hp) ?_
            refine relMove Ext.refl rfl rfl rfl rfl _ (.inl rfl) (by conv => lhs; whnf) (by simp only [List.set_cons_succ, List.set_cons_zero]; rfl) ?_
            refine relMove Ext.refl rfl rfl rfl rfl _ (.inl rfl) (by conv => lhs; whnf) (by simp only [List.set_cons_succ, List.set_cons_zero]; rfl) ?_
            refine relPure Ext.refl rfl rfl rfl rfl (c := .agg ((trc tot Ah nh ch Af nf cf)).toArray) (fun w hw => exec_loadAv (aX8.below hw.drew) _ _ rfl rfl _ 3 rfl Tryd.underlying26 rfl (by kernel_rfl)) (by simp only [List.set_cons_succ, List.set_cons_zero]; rfl) ?_
            refine relCall1 rfl rfl rfl rfl (c := .agg (trc tot Ah nh ch Af nf cf).toArray) 12 #[.agg (trc tot Ah nh ch Af nf cf).toArray] (fun w => by go_simp) (fun w hw => (HP.out w).mono ?_) (by simp only [List.set_cons_succ, List.set_cons_zero]; rfl) ?_
            · rintro e w' ⟨rfl, b⟩
              exact ⟨rfl, b⟩
            refine relPure Ext.refl rfl rfl rfl rfl (c := .agg (hcs root)) (fun w hw => exec_loadAv (aR8.below hw.drew) _ _ rfl rfl _ 32 rootv32.out Tryd.underlying28 rfl (by kernel_rfl)) (by simp only [List.set_cons_succ, List.set_cons_zero]; rfl) ?_
            refine relMove Ext.refl rfl rfl rfl rfl _ (.inl rfl) (by conv => lhs; whnf) (by simp only [List.set_cons_succ, List.set_cons_zero]; rfl) ?_
            refine relPure Ext.refl rfl rfl rfl rfl (c := .agg (hcs y)) (fun w hw => exec_loadAv (aY8.below hw.drew) _ _ rfl rfl _ 32 yv32.out Tryd.underlying28 rfl (by kernel_rfl)) (by simp only [List.set_cons_succ, List.set_cons_zero]; rfl) ?_
            refine relCall1 rfl rfl rfl rfl (c := .bool false) 17 #[.agg (trc tot Ah nh ch Af nf cf).toArray, .agg (hcs root), .int .i64 pos, .agg (hcs y)] (fun w => by go_simp) (fun w hw => (HK.out w (hrh.below (bw8.trans (hw.drew.mono bw8.size))) (hrf.below (bw8.trans (hw.drew.mono bw8.size))) (hT.below (bw8.trans (hw.drew.mono bw8.size)))).mono ?_) (by simp only [List.set_cons_succ, List.set_cons_zero]; rfl) ?_
            · rintro e w' ⟨rfl, b⟩
              exact ⟨rfl, b⟩
            refine relMove Ext.refl rfl rfl rfl rfl _ (.inl rfl) (by conv => lhs; whnf) (by simp only [List.set_cons_succ, List.set_cons_zero]; rfl) ?_
            refine relPure Ext.refl rfl rfl rfl rfl (c := .bool true) (fun w _ => by go_simp; first | done | rfl) (by simp only [List.set_cons_succ, List.set_cons_zero]; rfl) ?_
            refine relMove Ext.refl rfl rfl rfl rfl _ (.inl rfl) (by conv => lhs; whnf) (by simp only [List.set_cons_succ, List.set_cons_zero]; rfl) ?_
            refine relPure Ext.refl rfl rfl rfl rfl (c := .agg (hcs gx)) (fun w hw => exec_loadAv (aG8.below hw.drew) _ _ rfl rfl _ 32 gxv32.out Tryd.underlying28 rfl (by kernel_rfl)) (by simp only [List.set_cons_succ, List.set_cons_zero]; rfl) ?_
            refine relPure Ext.refl rfl rfl rfl rfl (c := .agg (hcs root)) (fun w hw => exec_loadAv (aR8.below hw.drew) _ _ rfl rfl _ 32 rootv32.out Tryd.underlying28 rfl (by kernel_rfl)) (by simp only [List.set_cons_succ, List.set_cons_zero]; rfl) ?_
            refine relBin Ext.refl rfl rfl rfl rfl _ _ _ _ _ rfl (by conv => lhs; whnf) (by conv => lhs; whnf) (c := .bool false) (fun w => EG.out _ _ w) (by simp only [List.set_cons_succ, List.set_cons_zero]; rfl) ?_
            refine relPick Ext.refl rfl rfl rfl rfl _ _ _ rfl rfl (by conv => lhs; whnf) (by simp only [List.set_cons_succ, List.set_cons_zero]; rfl) ?_
            refine relMove Ext.refl rfl rfl rfl rfl _ (.inl rfl) (by conv => lhs; whnf) (by simp only [List.set_cons_succ, List.set_cons_zero]; rfl) ?_
            refine relSkip rfl rfl rfl rfl (by simp only [List.set_cons_succ, List.set_cons_zero]; rfl) ?_
            refine relPick Ext.refl rfl rfl rfl rfl _ _ _ rfl rfl (by conv => lhs; whnf) (by simp only [List.set_cons_succ, List.set_cons_zero]; rfl) ?_
            refine relPure Ext.refl rfl rfl rfl rfl (c := .bool true) (fun w _ => by go_simp; first | done | rfl) (by simp only [List.set_cons_succ, List.set_cons_zero]; rfl) ?_
            refine relPick Ext.refl rfl rfl rfl rfl _ _ _ rfl rfl (by conv => lhs; whnf) (by simp only [List.set_cons_succ, List.set_cons_zero]; rfl) ?_
            refine relMove Ext.refl rfl rfl rfl rfl _ (.inl rfl) (by conv => lhs; whnf) (by simp only [List.set_cons_succ, List.set_cons_zero]; rfl) ?_
            refine relMove Ext.refl rfl rfl rfl rfl _ (.inl rfl) (by conv => lhs; whnf) (by simp only [List.set_cons_succ, List.set_cons_zero]; rfl) ?_
            refine relMove Ext.refl rfl rfl rfl rfl _ (.inl rfl) (by conv => lhs; whnf) (by simp only [List.set_cons_succ, List.set_cons_zero]; rfl) ?_
            refine relPure Ext.refl rfl rfl rfl rfl (c := .bool true) (fun w _ => by go_simp; first | done | rfl) (by simp only [List.set_cons_succ, List.set_cons_zero]; rfl) ?_
            refine relPick Ext.refl rfl rfl rfl rfl _ _ _ rfl rfl (by conv => lhs; whnf) (by simp only [List.set_cons_succ, List.set_cons_zero]; rfl) ?_
            refine relMove Ext.refl rfl rfl rfl rfl _ (.inr rfl) (by conv => lhs; whnf) (by simp only [List.set_cons_succ, List.set_cons_zero]; rfl) ?_
            refine relEnd fun w9 hw9 => fill_end ?_
            have bw9 := bw8.trans (hw9.drew.mono bw8.size)
            go_wp2
            go_ret
            exact ⟨rfl, bw9⟩
        | true =>
          rw [Bool.true_and] at hQ3
          subst hQ3
          subst e0
          clear hQ2 hO2 hE hQ hO hE2 q1 q2
          cases Q <;> cases O
          · refine wp_region_rel [] Ext (by kernel_rfl) (by kernel_rfl) (by kernel_rfl) Ext.refl Ext.trans (by intro p hp; cases hp) ?_
            refine relMove Ext.refl rfl rfl rfl rfl _ (.inl rfl) (by conv => lhs; whnf) (by simp only [List.set_cons_succ, List.set_cons_zero]; rfl) ?_
            refine relMove Ext.refl rfl rfl rfl rfl _ (.inl rfl) (by conv => lhs; whnf) (by simp only [List.set_cons_succ, List.set_cons_zero]; rfl) ?_
            refine relPure Ext.refl rfl rfl rfl rfl (c := .agg ((trc tot Ah nh ch Af nf cf)).toArray) (fun w hw => exec_loadAv (aX8.below hw.drew) _ _ rfl rfl _ 3 rfl Tryd.underlying26 rfl (by kernel_rfl)) (by simp only [List.set_cons_succ, List.set_cons_zero]; rfl) ?_
            refine relCall1 rfl rfl rfl rfl (c := .agg (trc tot Ah nh ch Af nf cf).toArray) 12 #[.agg (trc tot Ah nh ch Af nf cf).toArray] (fun w => by go_simp) (fun w hw => (HP.out w).mono ?_) (by simp only [List.set_cons_succ, List.set_cons_zero]; rfl) ?_
            · rintro e w' ⟨rfl, b⟩
              exact ⟨rfl, b⟩
            refine relPure Ext.refl rfl rfl rfl rfl (c := .agg (hcs root)) (fun w hw => exec_loadAv (aR8.below hw.drew) _ _ rfl rfl _ 32 rootv32.out Tryd.underlying28 rfl (by kernel_rfl)) (by simp only [List.set_cons_succ, List.set_cons_zero]; rfl) ?_
            refine relMove Ext.refl rfl rfl rfl rfl _ (.inl rfl) (by conv => lhs; whnf) (by simp only [List.set_cons_succ, List.set_cons_zero]; rfl) ?_
            refine relPure Ext.refl rfl rfl rfl rfl (c := .agg (hcs y)) (fun w hw => exec_loadAv (aY8.below hw.drew) _ _ rfl rfl _ 32 yv32.out Tryd.underlying28 rfl (by kernel_rfl)) (by simp only [List.set_cons_succ, List.set_cons_zero]; rfl) ?_
            refine relCall1 rfl rfl rfl rfl (c := .bool false) 17 #[.agg (trc tot Ah nh ch Af nf cf).toArray, .agg (hcs root), .int .i64 pos, .agg (hcs y)] (fun w => by go_simp) (fun w hw => (HK.out w (hrh.below (bw8.trans (hw.drew.mono bw8.size))) (hrf.below (bw8.trans (hw.drew.mono bw8.size))) (hT.below (bw8.trans (hw.drew.mono bw8.size)))).mono ?_) (by simp only [List.set_cons_succ, List.set_cons_zero]; rfl) ?_
            · rintro e w' ⟨rfl, b⟩
              exact ⟨rfl, b⟩
            refine relMove Ext.refl rfl rfl rfl rfl _ (.inl rfl) (by conv => lhs; whnf) (by simp only [List.set_cons_succ, List.set_cons_zero]; rfl) ?_
            refine relPure Ext.refl rfl rfl rfl rfl (c := .bool true) (fun w _ => by go_simp; first | done | rfl) (by simp only [List.set_cons_succ, List.set_cons_zero]; rfl) ?_
            refine relMove Ext.refl rfl rfl rfl rfl _ (.inl rfl) (by conv => lhs; whnf) (by simp only [List.set_cons_succ, List.set_cons_zero]; rfl) ?_
            refine relPure Ext.refl rfl rfl rfl rfl (c := .agg (hcs gx)) (fun w hw => exec_loadAv (aG8.below hw.drew) _ _ rfl rfl _ 32 gxv32.out Tryd.underlying28 rfl (by kernel_rfl)) (by simp only [List.set_cons_succ, List.set_cons_zero]; rfl) ?_
            refine relPure Ext.refl rfl rfl rfl rfl (c := .agg (hcs root)) (fun w hw => exec_loadAv (aR8.below hw.drew) _ _ rfl rfl _ 32 rootv32.out Tryd.underlying28 rfl (by kernel_rfl)) (by simp only [List.set_cons_succ, List.set_cons_zero]; rfl) ?_
            refine relBin Ext.refl rfl rfl rfl rfl _ _ _ _ _ rfl (by conv => lhs; whnf) (by conv => lhs; whnf) (c := .bool true) (fun w => EG.out _ _ w) (by simp only [List.set_cons_succ, List.set_cons_zero]; rfl) ?_
            refine relPick Ext.refl rfl rfl rfl rfl _ _ _ rfl rfl (by conv => lhs; whnf) (by simp only [List.set_cons_succ, List.set_cons_zero]; rfl) ?_
            refine relMove Ext.refl rfl rfl rfl rfl _ (.inl rfl) (by conv => lhs; whnf) (by simp only [List.set_cons_succ, List.set_cons_zero]; rfl) ?_
            refine relMove Ext.refl rfl rfl rfl rfl _ (.inl rfl) (by conv => lhs; whnf) (by simp only [List.set_cons_succ, List.set_cons_zero]; rfl) ?_
            refine relPick Ext.refl rfl rfl rfl rfl _ _ _ rfl rfl (by conv => lhs; whnf) (by simp only [List.set_cons_succ, List.set_cons_zero]; rfl) ?_
            refine relPure Ext.refl rfl rfl rfl rfl (c := .bool true) (fun w _ => by go_simp; first | done | rfl) (by simp only [List.set_cons_succ, List.set_cons_zero]; rfl) ?_
            refine relPick Ext.refl rfl rfl rfl rfl _ _ _ rfl rfl (by conv => lhs; whnf) (by simp only [List.set_cons_succ, List.set_cons_zero]; rfl) ?_
            refine relMove Ext.refl rfl rfl rfl rfl _ (.inl rfl) (by conv => lhs; whnf) (by simp only [List.set_cons_succ, List.set_cons_zero]; rfl) ?_
            refine relMove Ext.refl rfl rfl rfl rfl _ (.inl rfl) (by conv => lhs; whnf) (by simp only [List.set_cons_succ, List.set_cons_zero]; rfl) ?_
            refine relMove Ext.refl rfl rfl rfl rfl _ (.inl rfl) (by conv => lhs; whnf) (by simp only [List.set_cons_succ, List.set_cons_zero]; rfl) ?_
            refine relPure Ext.refl rfl rfl rfl rfl (c := .bool true) (fun w _ => by go_simp; first | done | rfl) (by simp only [List.set_cons_succ, List.set_cons_zero]; rfl) ?_
            refine relPick Ext.refl rfl rfl rfl rfl _ _ _ rfl rfl (by conv => lhs; whnf) (by simp only [List.set_cons_succ, List.set_cons_zero]; rfl) ?_
            refine relMove Ext.refl rfl rfl rfl rfl _ (.inr rfl) (by conv => lhs; whnf) (by simp only [List.set_cons_succ, List.set_cons_zero]; rfl) ?_
            refine relEnd fun w9 hw9 => fill_end ?_
            have bw9 := bw8.trans (hw9.drew.mono bw8.size)
            go_wp2
            go_ret
            exact ⟨rfl, bw9⟩
          · refine wp_region_rel [] Ext (by kernel_rfl) (by kernel_rfl) (by kernel_rfl) Ext.refl Ext.trans (by intro p hp; cases hp) ?_
            refine relMove Ext.refl rfl rfl rfl rfl _ (.inl rfl) (by conv => lhs; whnf) (by simp only [List.set_cons_succ, List.set_cons_zero]; rfl) ?_
            refine relMove Ext.refl rfl rfl rfl rfl _ (.inl rfl) (by conv => lhs; whnf) (by simp only [List.set_cons_succ, List.set_cons_zero]; rfl) ?_
            refine relPure Ext.refl rfl rfl rfl rfl (c := .agg ((trc tot Ah nh ch Af nf cf)).toArray) (fun w hw => exec_loadAv (aX8.below hw.drew) _ _ rfl rfl _ 3 rfl Tryd.underlying26 rfl (by kernel_rfl)) (by simp only [List.set_cons_succ, List.set_cons_zero]; rfl) ?_
            refine relCall1 rfl rfl rfl rfl (c := .agg (trc tot Ah nh ch Af nf cf).toArray) 12 #[.agg (trc tot Ah nh ch Af nf cf).toArray] (fun w => by go_simp) (fun w hw => (HP.out w).mono ?_) (by simp only [List.set_cons_succ, List.set_cons_zero]; rfl) ?_
            · rintro e w' ⟨rfl, b⟩
              exact ⟨rfl, b⟩
            refine relPure Ext.refl rfl rfl rfl rfl (c := .agg (hcs root)) (fun w hw => exec_loadAv (aR8.below hw.drew) _ _ rfl rfl _ 32 rootv32.out Tryd.underlying28 rfl (by kernel_rfl)) (by simp only [List.set_cons_succ, List.set_cons_zero]; rfl) ?_
            refine relMove Ext.refl rfl rfl rfl rfl _ (.inl rfl) (by conv => lhs; whnf) (by simp only [List.set_cons_succ, List.set_cons_zero]; rfl) ?_
            refine relPure Ext.refl rfl rfl rfl rfl (c := .agg (hcs y)) (fun w hw => exec_loadAv (aY8.below hw.drew) _ _ rfl rfl _ 32 yv32.out Tryd.underlying28 rfl (by kernel_rfl)) (by simp only [List.set_cons_succ, List.set_cons_zero]; rfl) ?_
            refine relCall1 rfl rfl rfl rfl (c := .bool false) 17 #[.agg (trc tot Ah nh ch Af nf cf).toArray, .agg (hcs root), .int .i64 pos, .agg (hcs y)] (fun w => by go_simp) (fun w hw => (HK.out w (hrh.below (bw8.trans (hw.drew.mono bw8.size))) (hrf.below (bw8.trans (hw.drew.mono bw8.size))) (hT.below (bw8.trans (hw.drew.mono bw8.size)))).mono ?_) (by simp only [List.set_cons_succ, List.set_cons_zero]; rfl) ?_
            · rintro e w' ⟨rfl, b⟩
              exact ⟨rfl, b⟩
            refine relMove Ext.refl rfl rfl rfl rfl _ (.inl rfl) (by conv => lhs; whnf) (by simp only [List.set_cons_succ, List.set_cons_zero]; rfl) ?_
            refine relPure Ext.refl rfl rfl rfl rfl (c := .bool true) (fun w _ => by go_simp; first | done | rfl) (by simp only [List.set_cons_succ, List.set_cons_zero]; rfl) ?_
            refine relMove Ext.refl rfl rfl rfl rfl _ (.inl rfl) (by conv => lhs; whnf) (by simp only [List.set_cons_succ, List.set_cons_zero]; rfl) ?_
            refine relPure Ext.refl rfl rfl rfl rfl (c := .agg (hcs gx)) (fun w hw => exec_loadAv (aG8.below hw.drew) _ _ rfl rfl _ 32 gxv32.out Tryd.underlying28 rfl (by kernel_rfl)) (by simp only [List.set_cons_succ, List.set_cons_zero]; rfl) ?_
            refine relPure Ext.refl rfl rfl rfl rfl (c := .agg (hcs root)) (fun w hw => exec_loadAv (aR8.below hw.drew) _ _ rfl rfl _ 32 rootv32.out Tryd.underlying28 rfl (by kernel_rfl)) (by simp only [List.set_cons_succ, List.set_cons_zero]; rfl) ?_
            refine relBin Ext.refl rfl rfl rfl rfl _ _ _ _ _ rfl (by conv => lhs; whnf) (by conv => lhs; whnf) (c := .bool true) (fun w => EG.out _ _ w) (by simp only [List.set_cons_succ, List.set_cons_zero]; rfl) ?_
            refine relPick Ext.refl rfl rfl rfl rfl _ _ _ rfl rfl (by conv => lhs; whnf) (by simp only [List.set_cons_succ, List.set_cons_zero]; rfl) ?_
            refine relMove Ext.refl rfl rfl rfl rfl _ (.inl rfl) (by conv => lhs; whnf) (by simp only [List.set_cons_succ, List.set_cons_zero]; rfl) ?_
            refine relMove Ext.refl rfl rfl rfl rfl _ (.inl rfl) (by conv => lhs; whnf) (by simp only [List.set_cons_succ, List.set_cons_zero]; rfl) ?_
            refine relPick Ext.refl rfl rfl rfl rfl _ _ _ rfl rfl (by conv => lhs; whnf) (by simp only [List.set_cons_succ, List.set_cons_zero]; rfl) ?_
            refine relPure Ext.refl rfl rfl rfl rfl (c := .bool true) (fun w _ => by go_simp; first | done | rfl) (by simp only [List.set_cons_succ, List.set_cons_zero]; rfl) ?_
            refine relPick Ext.refl rfl rfl rfl rfl _ _ _ rfl rfl (by conv => lhs; whnf) (by simp only [List.set_cons_succ, List.set_cons_zero]; rfl) ?_
            refine relMove Ext.refl rfl rfl rfl rfl _ (.inl rfl) (by conv => lhs; whnf) (by simp only [List.set_cons_succ, List.set_cons_zero]; rfl) ?_
            refine relMove Ext.refl rfl rfl rfl rfl _ (.inl rfl) (by conv => lhs; whnf) (by simp only [List.set_cons_succ, List.set_cons_zero]; rfl) ?_
            refine relMove Ext.refl rfl rfl rfl rfl _ (.inl rfl) (by conv => lhs; whnf) (by simp only [List.set_cons_succ, List.set_cons_zero]; rfl) ?_
            refine relPure Ext.refl rfl rfl rfl rfl (c := .bool true) (fun w _ => by go_simp; first | done | rfl) (by simp only [List.set_cons_succ, List.set_cons_zero]; rfl) ?_
            refine relPick Ext.refl rfl rfl rfl rfl _ _ _ rfl rfl (by conv => lhs; whnf) (by simp only [List.set_cons_succ, List.set_cons_zero]; rfl) ?_
            refine relMove Ext.refl rfl rfl rfl rfl _ (.inr rfl) (by conv => lhs; whnf) (by simp only [List.set_cons_succ, List.set_cons_zero]; rfl) ?_
            refine relEnd fun w9 hw9 => fill_end ?_
            have bw9 := bw8.trans (hw9.drew.mono bw8.size)
            go_wp2
            go_ret
            exact ⟨rfl, bw9⟩
          · refine wp_region_rel [] Ext (by kernel_rfl) (by kernel_rfl) (by kernel_rfl) Ext.refl Ext.trans (by intro p hp; cases hp) ?_
            refine relMove Ext.refl rfl rfl rfl rfl _ (.inl rfl) (by conv => lhs; whnf) (by simp only [List.set_cons_succ, List.set_cons_zero]; rfl) ?_
            refine relMove Ext.refl rfl rfl rfl rfl _ (.inl rfl) (by conv => lhs; whnf) (by simp only [List.set_cons_succ, List.set_cons_zero]; rfl) ?_
            refine relPure Ext.refl rfl rfl rfl rfl (c := .agg ((trc tot Ah nh ch Af nf cf)).toArray) (fun w hw => exec_loadAv (aX8.below hw.drew) _ _ rfl rfl _ 3 rfl Tryd.underlying26 rfl (by kernel_rfl)) (by simp only [List.set_cons_succ, List.set_cons_zero]; rfl) ?_
            refine relCall1 rfl rfl rfl rfl (c := .agg (trc tot Ah nh ch Af nf cf).toArray) 12 #[.agg (trc tot Ah nh ch Af nf cf).toArray] (fun w => by go_simp) (fun w hw => (HP.out w).mono ?_) (by simp only [List.set_cons_succ, List.set_cons_zero]; rfl) ?_
            · rintro e w' ⟨rfl, b⟩
              exact ⟨rfl, b⟩
            refine relPure Ext.refl rfl rfl rfl rfl (c := .agg (hcs root)) (fun w hw => exec_loadAv (aR8.below hw.drew) _ _ rfl rfl _ 32 rootv32.out Tryd.underlying28 rfl (by kernel_rfl)) (by simp only [List.set_cons_succ, List.set_cons_zero]; rfl) ?_
            refine relMove Ext.refl rfl rfl rfl rfl _ (.inl rfl) (by conv => lhs; whnf) (by simp only [List.set_cons_succ, List.set_cons_zero]; rfl) ?_
            refine relPure Ext.refl rfl rfl rfl rfl (c := .agg (hcs y)) (fun w hw => exec_loadAv (aY8.below hw.drew) _ _ rfl rfl _ 32 yv32.out Tryd.underlying28 rfl (by kernel_rfl)) (by simp only [List.set_cons_succ, List.set_cons_zero]; rfl) ?_
            refine relCall1 rfl rfl rfl rfl (c := .bool true) 17 #[.agg (trc tot Ah nh ch Af nf cf).toArray, .agg (hcs root), .int .i64 pos, .agg (hcs y)] (fun w => by go_simp) (fun w hw => (HK.out w (hrh.below (bw8.trans (hw.drew.mono bw8.size))) (hrf.below (bw8.trans (hw.drew.mono bw8.size))) (hT.below (bw8.trans (hw.drew.mono bw8.size)))).mono ?_) (by simp only [List.set_cons_succ, List.set_cons_zero]; rfl) ?_
            · rintro e w' ⟨rfl, b⟩
              exact ⟨rfl, b⟩
            refine relMove Ext.refl rfl rfl rfl rfl _ (.inl rfl) (by conv => lhs; whnf) (by simp only [List.set_cons_succ, List.set_cons_zero]; rfl) ?_
            refine relPure Ext.refl rfl rfl rfl rfl (c := .bool true) (fun w _ => by go_simp; first | done | rfl) (by simp only [List.set_cons_succ, List.set_cons_zero]; rfl) ?_
            refine relMove Ext.refl rfl rfl rfl rfl _ (.inl rfl) (by conv => lhs; whnf) (by simp only [List.set_cons_succ, List.set_cons_zero]; rfl) ?_
            refine relPure Ext.refl rfl rfl rfl rfl (c := .agg (hcs gx)) (fun w hw => exec_loadAv (aG8.below hw.drew) _ _ rfl rfl _ 32 gxv32.out Tryd.underlying28 rfl (by kernel_rfl)) (by simp only [List.set_cons_succ, List.set_cons_zero]; rfl) ?_
            refine relPure Ext.refl rfl rfl rfl rfl (c := .agg (hcs root)) (fun w hw => exec_loadAv (aR8.below hw.drew) _ _ rfl rfl _ 32 rootv32.out Tryd.underlying28 rfl (by kernel_rfl)) (by simp only [List.set_cons_succ, List.set_cons_zero]; rfl) ?_
            refine relBin Ext.refl rfl rfl rfl rfl _ _ _ _ _ rfl (by conv => lhs; whnf) (by conv => lhs; whnf) (c := .bool true) (fun w => EG.out _ _ w) (by simp only [List.set_cons_succ, List.set_cons_zero]; rfl) ?_
            refine relPick Ext.refl rfl rfl rfl rfl _ _ _ rfl rfl (by conv => lhs; whnf) (by simp only [List.set_cons_succ, List.set_cons_zero]; rfl) ?_
            refine relMove Ext.refl rfl rfl rfl rfl _ (.inl rfl) (by conv => lhs; whnf) (by simp only [List.set_cons_succ, List.set_cons_zero]; rfl) ?_
            refine relMove Ext.refl rfl rfl rfl rfl _ (.inl rfl) (by conv => lhs; whnf) (by simp only [List.set_cons_succ, List.set_cons_zero]; rfl) ?_
            refine relPick Ext.refl rfl rfl rfl rfl _ _ _ rfl rfl (by conv => lhs; whnf) (by simp only [List.set_cons_succ, List.set_cons_zero]; rfl) ?_
            refine relPure Ext.refl rfl rfl rfl rfl (c := .bool true) (fun w _ => by go_simp; first | done | rfl) (by simp only [List.set_cons_succ, List.set_cons_zero]; rfl) ?_
            refine relPick Ext.refl rfl rfl rfl rfl _ _ _ rfl rfl (by conv => lhs; whnf) (by simp only [List.set_cons_succ, List.set_cons_zero]; rfl) ?_
            refine relMove Ext.refl rfl rfl rfl rfl _ (.inl rfl) (by conv => lhs; whnf) (by simp only [List.set_cons_succ, List.set_cons_zero]; rfl) ?_
            refine relMove Ext.refl rfl rfl rfl rfl _ (.inl rfl) (by conv => lhs; whnf) (by simp only [List.set_cons_succ, List.set_cons_zero]; rfl) ?_
            refine relMove Ext.refl rfl rfl rfl rfl _ (.inl rfl) (by conv => lhs; whnf) (by simp only [List.set_cons_succ, List.set_cons_zero]; rfl) ?_
            refine relPure Ext.refl rfl rfl rfl rfl (c := .bool true) (fun w _ => by go_simp; first | done | rfl) (by simp only [List.set_cons_succ, List.set_cons_zero]; rfl) ?_
            refine relPick Ext.refl rfl rfl rfl rfl _ _ _ rfl rfl (by conv => lhs; whnf) (by simp only [List.set_cons_succ, List.set_cons_zero]; rfl) ?_
            refine relMove Ext.refl rfl rfl rfl rfl _ (.inr rfl) (by conv => lhs; whnf) (by simp only [List.set_cons_succ, List.set_cons_zero]; rfl) ?_
            refine relEnd fun w9 hw9 => fill_end ?_
            have bw9 := bw8.trans (hw9.drew.mono bw8.size)
            go_wp2
            go_ret
            exact ⟨rfl, bw9⟩
          · refine wp_region_rel [] Ext (by kernel_rfl) (by kernel_rfl) (by kernel_rfl) Ext.refl Ext.trans (by intro p hp; cases hp) ?_
            refine relMove Ext.refl rfl rfl rfl rfl _ (.inl rfl) (by conv => lhs; whnf) (by simp only [List.set_cons_succ, List.set_cons_zero]; rfl) ?_
            refine relMove Ext.refl rfl rfl rfl rfl _ (.inl rfl) (by conv => lhs; whnf) (by simp only [List.set_cons_succ, List.set_cons_zero]; rfl) ?_
            refine relPure Ext.refl rfl rfl rfl rfl (c := .agg ((trc tot Ah nh ch Af nf cf)).toArray) (fun w hw => exec_loadAv (aX8.below hw.drew) _ _ rfl rfl _ 3 rfl Tryd.underlying26 rfl (by kernel_rfl)) (by simp only [List.set_cons_succ, List.set_cons_zero]; rfl) ?_
            refine relCall1 rfl rfl rfl rfl (c := .agg (trc tot Ah nh ch Af nf cf).toArray) 12 #[.agg (trc tot Ah nh ch Af nf cf).toArray] (fun w => by go_simp) (fun w hw => (HP.out w).mono ?_) (by simp only [List.set_cons_succ, List.set_cons_zero]; rfl) ?_
            · rintro e w' ⟨rfl, b⟩
              exact ⟨rfl, b⟩
            refine relPure Ext.refl rfl rfl rfl rfl (c := .agg (hcs root)) (fun w hw => exec_loadAv (aR8.below hw.drew) _ _ rfl rfl _ 32 rootv32.out Tryd.underlying28 rfl (by kernel_rfl)) (by simp only [List.set_cons_succ, List.set_cons_zero]; rfl) ?_
            refine relMove Ext.refl rfl rfl rfl rfl _ (.inl rfl) (by conv => lhs; whnf) (by simp only [List.set_cons_succ, List.set_cons_zero]; rfl) ?_
            refine relPure Ext.refl rfl rfl rfl rfl (c := .agg (hcs y)) (fun w hw => exec_loadAv (aY8.below hw.drew) _ _ rfl rfl _ 32 yv32.out Tryd.underlying28 rfl (by kernel_rfl)) (by simp only [List.set_cons_succ, List.set_cons_zero]; rfl) ?_
            refine relCall1 rfl rfl rfl rfl (c := .bool true) 17 #[.agg (trc tot Ah nh ch Af nf cf).toArray, .agg (hcs root), .int .i64 pos, .agg (hcs y)] (fun w => by go_simp) (fun w hw => (HK.out w (hrh.below (bw8.trans (hw.drew.mono bw8.size))) (hrf.below (bw8.trans (hw.drew.mono bw8.size))) (hT.below (bw8.trans (hw.drew.mono bw8.size)))).mono ?_) (by simp only [List.set_cons_succ, List.set_cons_zero]; rfl) ?_
            · rintro e w' ⟨rfl, b⟩
              exact ⟨rfl, b⟩
            refine relMove Ext.refl rfl rfl rfl rfl _ (.inl rfl) (by conv => lhs; whnf) (by simp only [List.set_cons_succ, List.set_cons_zero]; rfl) ?_
            refine relPure Ext.refl rfl rfl rfl rfl (c := .bool true) (fun w _ => by go_simp; first | done | rfl) (by simp only [List.set_cons_succ, List.set_cons_zero]; rfl) ?_
            refine relMove Ext.refl rfl rfl rfl rfl _ (.inl rfl) (by conv => lhs; whnf) (by simp only [List.set_cons_succ, List.set_cons_zero]; rfl) ?_
            refine relPure Ext.refl rfl rfl rfl rfl (c := .agg (hcs gx)) (fun w hw => exec_loadAv (aG8.below hw.drew) _ _ rfl rfl _ 32 gxv32.out Tryd.underlying28 rfl (by kernel_rfl)) (by simp only [List.set_cons_succ, List.set_cons_zero]; rfl) ?_
            refine relPure Ext.refl rfl rfl rfl rfl (c := .agg (hcs root)) (fun w hw => exec_loadAv (aR8.below hw.drew) _ _ rfl rfl _ 32 rootv32.out Tryd.underlying28 rfl (by kernel_rfl)) (by simp only [List.set_cons_succ, List.set_cons_zero]; rfl) ?_
            refine relBin Ext.refl rfl rfl rfl rfl _ _ _ _ _ rfl (by conv => lhs; whnf) (by conv => lhs; whnf) (c := .bool true) (fun w => EG.out _ _ w) (by simp only [List.set_cons_succ, List.set_cons_zero]; rfl) ?_
            refine relPick Ext.refl rfl rfl rfl rfl _ _ _ rfl rfl (by conv => lhs; whnf) (by simp only [List.set_cons_succ, List.set_cons_zero]; rfl) ?_
            refine relMove Ext.refl rfl rfl rfl rfl _ (.inl rfl) (by conv => lhs; whnf) (by simp only [List.set_cons_succ, List.set_cons_zero]; rfl) ?_
            refine relMove Ext.refl rfl rfl rfl rfl _ (.inl rfl) (by conv => lhs; whnf) (by simp only [List.set_cons_succ, List.set_cons_zero]; rfl) ?_
            refine relPick Ext.refl rfl rfl rfl rfl _ _ _ rfl rfl (by conv => lhs; whnf) (by simp only [List.set_cons_succ, List.set_cons_zero]; rfl) ?_
            refine relPure Ext.refl rfl rfl rfl rfl (c := .bool true) (fun w _ => by go_simp; first | done | rfl) (by simp only [List.set_cons_succ, List.set_cons_zero]; rfl) ?_
            refine relPick Ext.refl rfl rfl rfl rfl _ _ _ rfl rfl (by conv => lhs; whnf) (by simp only [List.set_cons_succ, List.set_cons_zero]; rfl) ?_
            refine relMove Ext.refl rfl rfl rfl rfl _ (.inl rfl) (by conv => lhs; whnf) (by simp only [List.set_cons_succ, List.set_cons_zero]; rfl) ?_
            refine relMove Ext.refl rfl rfl rfl rfl _ (.inl rfl) (by conv => lhs; whnf) (by simp only [List.set_cons_succ, List.set_cons_zero]; rfl) ?_
            refine relMove Ext.refl rfl rfl rfl rfl _ (.inl rfl) (by conv => lhs; whnf) (by simp only [List.set_cons_succ, List.set_cons_zero]; rfl) ?_
            refine relPure Ext.refl rfl rfl rfl rfl (c := .bool true) (fun w _ => by go_simp; first | done | rfl) (by simp only [List.set_cons_succ, List.set_cons_zero]; rfl) ?_
            refine relPick Ext.refl rfl rfl rfl rfl _ _ _ rfl rfl (by conv => lhs; whnf) (by simp only [List.set_cons_succ, List.set_cons_zero]; rfl) ?_
            refine relMove Ext.refl rfl rfl rfl rfl _ (.inr rfl) (by conv => lhs; whnf) (by simp only [List.set_cons_succ, List.set_cons_zero]; rfl) ?_
            refine relEnd fun w9 hw9 => fill_end ?_
            have bw9 := bw8.trans (hw9.drew.mono bw8.size)
            go_wp2
            go_ret
            exact ⟨rfl, bw9⟩
      · have e1 : (E == 0) = false := by rw [e0]; rfl
        rw [e1, Bool.false_and] at hQ3
        subst hQ3
        subst e0
        clear hQ2 hO2 hE hQ hO hE2 q1 q2
        cases O
        · refine wp_region_rel [] Ext (by kernel_rfl) (by kernel_rfl) (by kernel_rfl) Ext.refl Ext.trans (by intro p hp; cases hp) ?_
          refine relMove Ext.refl rfl rfl rfl rfl _ (.inl rfl) (by conv => lhs; whnf) (by simp only [List.set_cons_succ, List.set_cons_zero]; rfl) ?_
          refine relMove Ext.refl rfl rfl rfl rfl _ (.inl rfl) (by conv => lhs; whnf) (by simp only [List.set_cons_succ, List.set_cons_zero]; rfl) ?_
          refine relPure Ext.refl rfl rfl rfl rfl (c := .agg ((trc tot Ah nh ch Af nf cf)).toArray) (fun w hw => exec_loadAv (aX8.below hw.drew) _ _ rfl rfl _ 3 rfl Tryd.underlying26 rfl (by kernel_rfl)) (by simp only [List.set_cons_succ, List.set_cons_zero]; rfl) ?_
          refine relCall1 rfl rfl rfl rfl (c := .agg (trc tot Ah nh ch Af nf cf).toArray) 12 #[.agg (trc tot Ah nh ch Af nf cf).toArray] (fun w => by go_simp) (fun w hw => (HP.out w).mono ?_) (by simp only [List.set_cons_succ, List.set_cons_zero]; rfl) ?_
          · rintro e w' ⟨rfl, b⟩
            exact ⟨rfl, b⟩
          refine relPure Ext.refl rfl rfl rfl rfl (c := .agg (hcs root)) (fun w hw => exec_loadAv (aR8.below hw.drew) _ _ rfl rfl _ 32 rootv32.out Tryd.underlying28 rfl (by kernel_rfl)) (by simp only [List.set_cons_succ, List.set_cons_zero]; rfl) ?_
          refine relMove Ext.refl rfl rfl rfl rfl _ (.inl rfl) (by conv => lhs; whnf) (by simp only [List.set_cons_succ, List.set_cons_zero]; rfl) ?_
          refine relPure Ext.refl rfl rfl rfl rfl (c := .agg (hcs y)) (fun w hw => exec_loadAv (aY8.below hw.drew) _ _ rfl rfl _ 32 yv32.out Tryd.underlying28 rfl (by kernel_rfl)) (by simp only [List.set_cons_succ, List.set_cons_zero]; rfl) ?_
          refine relCall1 rfl rfl rfl rfl (c := .bool false) 17 #[.agg (trc tot Ah nh ch Af nf cf).toArray, .agg (hcs root), .int .i64 pos, .agg (hcs y)] (fun w => by go_simp) (fun w hw => (HK.out w (hrh.below (bw8.trans (hw.drew.mono bw8.size))) (hrf.below (bw8.trans (hw.drew.mono bw8.size))) (hT.below (bw8.trans (hw.drew.mono bw8.size)))).mono ?_) (by simp only [List.set_cons_succ, List.set_cons_zero]; rfl) ?_
          · rintro e w' ⟨rfl, b⟩
            exact ⟨rfl, b⟩
          refine relMove Ext.refl rfl rfl rfl rfl _ (.inl rfl) (by conv => lhs; whnf) (by simp only [List.set_cons_succ, List.set_cons_zero]; rfl) ?_
          refine relPure Ext.refl rfl rfl rfl rfl (c := .bool false) (fun w _ => by go_simp; first | done | rfl) (by simp only [List.set_cons_succ, List.set_cons_zero]; rfl) ?_
          refine relMove Ext.refl rfl rfl rfl rfl _ (.inl rfl) (by conv => lhs; whnf) (by simp only [List.set_cons_succ, List.set_cons_zero]; rfl) ?_
          refine relSkip rfl rfl rfl rfl (by simp only [List.set_cons_succ, List.set_cons_zero]; rfl) ?_
          refine relSkip rfl rfl rfl rfl (by simp only [List.set_cons_succ, List.set_cons_zero]; rfl) ?_
          refine relSkip rfl rfl rfl rfl (by simp only [List.set_cons_succ, List.set_cons_zero]; rfl) ?_
          refine relPick Ext.refl rfl rfl rfl rfl _ _ _ rfl rfl (by conv => lhs; whnf) (by simp only [List.set_cons_succ, List.set_cons_zero]; rfl) ?_
          refine relMove Ext.refl rfl rfl rfl rfl _ (.inl rfl) (by conv => lhs; whnf) (by simp only [List.set_cons_succ, List.set_cons_zero]; rfl) ?_
          refine relSkip rfl rfl rfl rfl (by simp only [List.set_cons_succ, List.set_cons_zero]; rfl) ?_
          refine relPick Ext.refl rfl rfl rfl rfl _ _ _ rfl rfl (by conv => lhs; whnf) (by simp only [List.set_cons_succ, List.set_cons_zero]; rfl) ?_
          refine relPure Ext.refl rfl rfl rfl rfl (c := .bool true) (fun w _ => by go_simp; first | done | rfl) (by simp only [List.set_cons_succ, List.set_cons_zero]; rfl) ?_
          refine relPick Ext.refl rfl rfl rfl rfl _ _ _ rfl rfl (by conv => lhs; whnf) (by simp only [List.set_cons_succ, List.set_cons_zero]; rfl) ?_
          refine relMove Ext.refl rfl rfl rfl rfl _ (.inl rfl) (by conv => lhs; whnf) (by simp only [List.set_cons_succ, List.set_cons_zero]; rfl) ?_
          refine relMove Ext.refl rfl rfl rfl rfl _ (.inl rfl) (by conv => lhs; whnf) (by simp only [List.set_cons_succ, List.set_cons_zero]; rfl) ?_
          refine relMove Ext.refl rfl rfl rfl rfl _ (.inl rfl) (by conv => lhs; whnf) (by simp only [List.set_cons_succ, List.set_cons_zero]; rfl) ?_
          refine relPure Ext.refl rfl rfl rfl rfl (c := .bool true) (fun w _ => by go_simp; first | done | rfl) (by simp only [List.set_cons_succ, List.set_cons_zero]; rfl) ?_
          refine relPick Ext.refl rfl rfl rfl rfl _ _ _ rfl rfl (by conv => lhs; whnf) (by simp only [List.set_cons_succ, List.set_cons_zero]; rfl) ?_
          refine relMove Ext.refl rfl rfl rfl rfl _ (.inr rfl) (by conv => lhs; whnf) (by simp only [List.set_cons_succ, List.set_cons_zero]; rfl) ?_
          refine relEnd fun w9 hw9 => fill_end ?_
          have bw9 := bw8.trans (hw9.drew.mono bw8.size)
          go_wp2
          go_ret
          exact ⟨rfl, bw9⟩
        · refine wp_region_rel [] Ext (by kernel_rfl) (by kernel_rfl) (by kernel_rfl) Ext.refl Ext.trans (by intro p hp; cases hp) ?_
          refine relMove Ext.refl rfl rfl rfl rfl _ (.inl rfl) (by conv => lhs; whnf) (by simp only [List.set_cons_succ, List.set_cons_zero]; rfl) ?_
          refine relMove Ext.refl rfl rfl rfl rfl _ (.inl rfl) (by conv => lhs; whnf) (by simp only [List.set_cons_succ, List.set_cons_zero]; rfl) ?_
          refine relPure Ext.refl rfl rfl rfl rfl (c := .agg ((trc tot Ah nh ch Af nf cf)).toArray) (fun w hw => exec_loadAv (aX8.below hw.drew) _ _ rfl rfl _ 3 rfl Tryd.underlying26 rfl (by kernel_rfl)) (by simp only [List.set_cons_succ, List.set_cons_zero]; rfl) ?_
          refine relCall1 rfl rfl rfl rfl (c := .agg (trc tot Ah nh ch Af nf cf).toArray) 12 #[.agg (trc tot Ah nh ch Af nf cf).toArray] (fun w => by go_simp) (fun w hw => (HP.out w).mono ?_) (by simp only [List.set_cons_succ, List.set_cons_zero]; rfl) ?_
          · rintro e w' ⟨rfl, b⟩
            exact ⟨rfl, b⟩
          refine relPure Ext.refl rfl rfl rfl rfl (c := .agg (hcs root)) (fun w hw => exec_loadAv (aR8.below hw.drew) _ _ rfl rfl _ 32 rootv32.out Tryd.underlying28 rfl (by kernel_rfl)) (by simp only [List.set_cons_succ, List.set_cons_zero]; rfl) ?_
          refine relMove Ext.refl rfl rfl rfl rfl _ (.inl rfl) (by conv => lhs; whnf) (by simp only [List.set_cons_succ, List.set_cons_zero]; rfl) ?_
          refine relPure Ext.refl rfl rfl rfl rfl (c := .agg (hcs y)) (fun w hw => exec_loadAv (aY8.below hw.drew) _ _ rfl rfl _ 32 yv32.out Tryd.underlying28 rfl (by kernel_rfl)) (by simp only [List.set_cons_succ, List.set_cons_zero]; rfl) ?_
          refine relCall1 rfl rfl rfl rfl (c := .bool false) 17 #[.agg (trc tot Ah nh ch Af nf cf).toArray, .agg (hcs root), .int .i64 pos, .agg (hcs y)] (fun w => by go_simp) (fun w hw => (HK.out w (hrh.below (bw8.trans (hw.drew.mono bw8.size))) (hrf.below (bw8.trans (hw.drew.mono bw8.size))) (hT.below (bw8.trans (hw.drew.mono bw8.size)))).mono ?_) (by simp only [List.set_cons_succ, List.set_cons_zero]; rfl) ?_
          · rintro e w' ⟨rfl, b⟩
            exact ⟨rfl, b⟩
          refine relMove Ext.refl rfl rfl rfl rfl _ (.inl rfl) (by conv => lhs; whnf) (by simp only [List.set_cons_succ, List.set_cons_zero]; rfl) ?_
          refine relPure Ext.refl rfl rfl rfl rfl (c := .bool false) (fun w _ => by go_simp; first | done | rfl) (by simp only [List.set_cons_succ, List.set_cons_zero]; rfl) ?_
          refine relMove Ext.refl rfl rfl rfl rfl _ (.inl rfl) (by conv => lhs; whnf) (by simp only [List.set_cons_succ, List.set_cons_zero]; rfl) ?_
          refine relSkip rfl rfl rfl rfl (by simp only [List.set_cons_succ, List.set_cons_zero]; rfl) ?_
          refine relSkip rfl rfl rfl rfl (by simp only [List.set_cons_succ, List.set_cons_zero]; rfl) ?_
          refine relSkip rfl rfl rfl rfl (by simp only [List.set_cons_succ, List.set_cons_zero]; rfl) ?_
          refine relPick Ext.refl rfl rfl rfl rfl _ _ _ rfl rfl (by conv => lhs; whnf) (by simp only [List.set_cons_succ, List.set_cons_zero]; rfl) ?_
          refine relMove Ext.refl rfl rfl rfl rfl _ (.inl rfl) (by conv => lhs; whnf) (by simp only [List.set_cons_succ, List.set_cons_zero]; rfl) ?_
          refine relSkip rfl rfl rfl rfl (by simp only [List.set_cons_succ, List.set_cons_zero]; rfl) ?_
          refine relPick Ext.refl rfl rfl rfl rfl _ _ _ rfl rfl (by conv => lhs; whnf) (by simp only [List.set_cons_succ, List.set_cons_zero]; rfl) ?_
          refine relPure Ext.refl rfl rfl rfl rfl (c := .bool true) (fun w _ => by go_simp; first | done | rfl) (by simp only [List.set_cons_succ, List.set_cons_zero]; rfl) ?_
          refine relPick Ext.refl rfl rfl rfl rfl _ _ _ rfl rfl (by conv => lhs; whnf) (by simp only [List.set_cons_succ, List.set_cons_zero]; rfl) ?_
          refine relMove Ext.refl rfl rfl rfl rfl _ (.inl rfl) (by conv => lhs; whnf) (by simp only [List.set_cons_succ, List.set_cons_zero]; rfl) ?_
          refine relMove Ext.refl rfl rfl rfl rfl _ (.inl rfl) (by conv => lhs; whnf) (by simp only [List.set_cons_succ, List.set_cons_zero]; rfl) ?_
          refine relMove Ext.refl rfl rfl rfl rfl _ (.inl rfl) (by conv => lhs; whnf) (by simp only [List.set_cons_succ, List.set_cons_zero]; rfl) ?_
          refine relPure Ext.refl rfl rfl rfl rfl (c := .bool true) (fun w _ => by go_simp; first | done | rfl) (by simp only [List.set_cons_succ, List.set_cons_zero]; rfl) ?_
          refine relPick Ext.refl rfl rfl rfl rfl _ _ _ rfl rfl (by conv => lhs; whnf) (by simp only [List.set_cons_succ, List.set_cons_zero]; rfl) ?_
          refine relMove Ext.refl rfl rfl rfl rfl _ (.inr rfl) (by conv => lhs; whnf) (by simp only [List.set_cons_succ, List.set_cons_zero]; rfl) ?_
          refine relEnd fun w9 hw9 => fill_end ?_
          have bw9 := bw8.trans (hw9.drew.mono bw8.size)
          go_wp2
          go_ret
          exact ⟨rfl, bw9⟩
theorem law_ProofChecks (tot : Nat) (hs : List (List UInt8)) (fl : List UInt8) (Ah Af : Option Addr) (nh ch nf cf : Nat) (htot : tot < 4294967296) (hnh : hs.length = nh) (h32 : All32 hs) (_ : nh ≤ ch) (hnf : fl.length = nf) (_ : nf ≤ cf) (root y : List UInt8) (r32 : root.length = 32) (y32 : y.length = 32) (pos : Int) (w : World) (hrh : Rd w Ah (hcl hs)) (hrf : Rd w Af (fl.map bv)) (hT : Tabs w) : Calls Tryd.prog 4 #[.agg (trc tot Ah nh ch Af nf cf).toArray, .agg (hcs root), .int .i64 pos, .agg (hcs y)] w fun e w' => e = .returned (.bool true) ∧ Below w.heap.size w w' := by
  by_cases h : nh ≤ 60 ∧ nf ≤ 60
  · exact pchk_1 tot hs fl Ah Af nh ch nf cf htot hnh h32 hnf root y r32 y32 pos w hrh hrf hT h.1 h.2
  · exact pchk_0 tot Ah Af nh ch nf cf root y pos (by simp only [h, decide_false]) w hT
end Go.Proofs.YtdkknincamkhpaaDoor
