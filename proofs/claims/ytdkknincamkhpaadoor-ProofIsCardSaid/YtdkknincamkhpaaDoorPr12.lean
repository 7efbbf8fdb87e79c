/- Px; Clv; Qm; Qs; Qf: put together for the claim. -/
import Derived.Test.YtdkknincamkhpaaDoorPn
import Derived.Test.YtdkknincamkhpaaDoorPr9
/- partial.Extract. -/
namespace Go.Proofs.YtdkknincamkhpaaDoor
open Go.RowKit
attribute [local go_sem high] slB_lh slB_l slB_h
/-- what Extract answers -/
def ExtPost (w0 : World) (ans : Option PRes) (e : Ending) (w' : World) : Prop :=
  Below w0.heap.size w0 w' ∧ match ans with
  | none => e = .returned (.tuple #[.agg (hcs zs32), .slice none 0 0, .int .i64 13])
  | some r => ∃ A c, e = .returned (.tuple #[.agg (hcs r.x), .slice A r.l.length c, .int .i64 0]) ∧ r.l.length ≤ c ∧ (∀ a, A = some a → w0.heap.size ≤ a.block) ∧ Rd w' A (mlc r.l)
set_option maxRecDepth 100000 in
set_option maxHeartbeats 8000000 in
theorem PExt (fl : List UInt8) (hs : List (List UInt8)) (h32 : All32 hs) (tot : Nat) (Ah : Option Addr) (nh ch : Nat) (Af : Option Addr) (nf cf : Nat) (hnh : hs.length = nh) (hnf : fl.length = nf) (ht : tot < 4294967296) (hnf2 : nf ≤ 10000) (hnh2 : nh ≤ 10000) (w : World)
    (hrh : Rd w Ah (hcl hs)) (hrf : Rd w Af (fl.map bv)) (hT : Tabs w) :
    Calls Tryd.prog 22 #[.agg (trc tot Ah nh ch Af nf cf).toArray] w (ExtPost w (pExt tot hs fl)) := by
  obtain ⟨ans, hans⟩ : ∃ ans, ans = pExt tot hs fl := ⟨_, rfl⟩
  rw [← hans]
  have hz := zeros_32
  rw [show List.replicate 32 (0 : UInt8) = zs32 from rfl] at hz
  obtain ⟨T, hT1⟩ : ∃ T, T = w.heap.size := ⟨_, rfl⟩
  obtain ⟨G, hG⟩ : ∃ G, G = w.heap.size + 1 := ⟨_, rfl⟩
  obtain ⟨W, hW⟩ : ∃ W, W = (w.alloc (.cells (trc tot Ah nh ch Af nf cf).toArray 33)).alloc (.cells (zs32.map bv).toArray 28) := ⟨_, rfl⟩
  have bW : Below w.heap.size w W := by rw [hW]; exact ((Below.refl _ _).alloc (Nat.le_refl _) _).alloc (by simp) _
  have aT : Av W T 33 (trc tot Ah nh ch Af nf cf) := by rw [hW, hT1]; exact Av.newer w (trc tot Ah nh ch Af nf cf) _ _
  have aG : Av W G 28 (zs32.map bv) := by rw [hW, hG, ← World.size_alloc w (.cells (trc tot Ah nh ch Af nf cf).toArray 33)]; exact Av.new _ _ _
  have hGw : w.heap.size ≤ G := by omega
  have hzone : (zs32.map bv).all (·.oneCell') = true := rfl
  have HM := fun w' => PMay hs fl tot Ah nh ch Af nf cf hnh hnf (by omega) (by omega) ht w'
  obtain ⟨m, hm⟩ : ∃ m, m = pMay tot hs fl := ⟨_, rfl⟩
  rw [← hm] at HM
  have sW : W.heap.size = w.heap.size + 2 := by rw [hW]; simp
  replace hW := Lib.hid hW
  replace hT1 := Lib.hid hT1
  replace hG := Lib.hid hG
  replace hzone := Lib.hid hzone
  replace HM := Lib.hid HM
  replace hnh := Lib.hid hnh
  replace hnf := Lib.hid hnf
  replace hans := Lib.hid hans
  replace sW := Lib.hid sW
  go_enter Tryd.func22, Tryd.ntmps22
  go_upto_region 1 with fail
  rw [← hT1.out]
  rw [show T + 1 = G by rw [hT1.out, hG.out]]
  rw [← hW.out]
  cases m with
  | false =>
    have hb : ans = none := by
      have := hm
      rw [hans.out, pExt, ← this]
      rfl
    subst hb
    replace hm := Lib.hid hm
    go_upto_region 2 with (first
      | ((with_reducible refine wpList_loadF 33 aT ?_ _ 3 ?_ Tryd.underlying33 ?_ ?_ ?_); rfl; rfl; rfl; kernel_rfl)
      | (go_at_call 39; refine (HM.out W).mono ?_; rintro e w1 ⟨rfl, b1⟩))
    have aG1 := aG.below b1
    go_wp2_with (first
      | ((with_reducible refine wpList_storeFA 28 (Below.refl w.heap.size w1) aG1 hGw (zs32.map bv) ?_ ?_ 32 rfl ?_ ?_ ?_ ?_); rfl; rfl; kernel_rfl; rfl; exact hzone.out; intro w9 a9 b9 k9 z9))
    refine bodyPost_ret (v := .tuple #[.agg (hcs zs32), .slice none 0 0, .int .i64 13]) ((results_cellAv2 (C := zs32.map bv) (by rfl) (by rfl) a9 _ Tryd.underlying28 rfl 32 rfl (by kernel_rfl)).trans (by rfl)) (by rfl) ?_
    exact ⟨(bW.trans (b1.mono bW.size)).trans (b9.mono (Nat.le_refl _)), rfl⟩
  | true =>
    have may : tot ≠ 0 ∧ tot ≤ 4096 ∧ hs.length ≤ tot ∧ hs.length ≤ 8 * fl.length := by
      have := hm.symm
      unfold pMay at this
      exact of_decide_eq_true this
    have ht0 : 0 < tot := by omega
    have ht2 : tot ≤ 4096 := may.2.1
    replace may := Lib.hid may
    have hans2 : ans = (pRd tot fl hs (pHt tot) 0 0 0).filter fun r => pDone hs fl r.d r.k := by
      have := hm
      rw [hans.out, pExt, ← this]
      rfl
    obtain ⟨rr, hrr⟩ : ∃ rr, rr = pRd tot fl hs (pHt tot) 0 0 0 := ⟨_, rfl⟩
    have HR := fun R w' a b c d e f => PRead fl hs h32 tot Ah nh ch Af nf cf R hnh.out hnf.out ht0 ht2 hnf2 hnh2 w' a b c d e f
    have hbd : ∀ r, rr = some r → r.d ≤ 8 * fl.length ∧ r.x.length = 32 := fun r hr => by
      rw [hrr] at hr
      have := pRd_bounds tot fl hs h32 _ _ _ _ _ hr
      exact ⟨this.2.1, this.2.2.2.2.2.1⟩
    rw [← hrr] at HR hans2
    replace HR := Lib.hid HR
    replace hrr := Lib.hid hrr
    replace hm := Lib.hid hm
    replace hbd := Lib.hid hbd
    clear hans
    go_upto_region 3 with (first
      | ((with_reducible refine wpList_loadF 33 aT ?_ _ 3 ?_ Tryd.underlying33 ?_ ?_ ?_); rfl; rfl; rfl; kernel_rfl)
      | (go_at_call 39; refine (HM.out W).mono ?_; rintro e w1 ⟨rfl, b1⟩))
    have aG1 := aG.below b1
    have aT1 := aT.below b1
    have bw1 := bW.trans (b1.mono bW.size)
    have sw1 : w.heap.size + 2 ≤ w1.heap.size := by rw [← sW.out]; exact b1.size
    replace hans2 := Lib.hid hans2
    clear aG aT b1 bW HM
    go_upto_region 4 with (first
      | ((with_reducible refine wpList_loadF 33 aT1 ?_ _ 3 ?_ Tryd.underlying33 ?_ ?_ ?_); rfl; rfl; rfl; kernel_rfl)
      | ((with_reducible refine wpList_bld (.agg (rdc tot Ah nh ch Af nf cf 0 0).toArray) ?_ ?_); kernel_rfl))
    obtain ⟨W2, hW2⟩ : ∃ W2, W2 = w1.alloc (.cells (rdc tot Ah nh ch Af nf cf 0 0).toArray 80) := ⟨_, rfl⟩
    obtain ⟨R, hR⟩ : ∃ R, R = w1.heap.size := ⟨_, rfl⟩
    have aR : Av W2 R 80 (rdc tot Ah nh ch Af nf cf 0 0) := by rw [hW2, hR]; exact Av.new _ _ _
    have b2 : Below w1.heap.size w1 W2 := by rw [hW2]; exact (Below.refl _ _).alloc (Nat.le_refl _) _
    have bw2 := bw1.trans (b2.mono bw1.size)
    have aG2 := aG1.below b2
    have rh2 := hrh.below bw2
    have rf2 := hrf.below bw2
    have hRw : w.heap.size ≤ R := by rw [hR]; omega
    have hRG : R ≠ G := by have := aG1.lt; omega
    have frT : ∀ w', Fr (fun j => j = R) W2 w' → Below w.heap.size w w' := fun w' f => bw2.trans (f.below (fun k hk => by rw [hk]; exact hRw) bw2.size)
    have nAh : hcl hs ≠ [] → ∀ a, Ah = some a → a.block ≠ R := fun hne a ha => by have := hrh.lt hne a ha; omega
    have nAf : fl.map bv ≠ [] → ∀ a, Af = some a → a.block ≠ R := fun hne a ha => by have := hrf.lt hne a ha; omega
    have HR2 := HR.out R W2 aR rh2 rf2 nAh nAf (fun w' f => hT.below (frT w' f))
    rw [← hW2, ← hR]
    replace HR2 := Lib.hid HR2
    replace hW2 := Lib.hid hW2
    replace hR := Lib.hid hR
    replace nAh := Lib.hid nAh
    replace nAf := Lib.hid nAf
    clear HR aG1 aT1 b2 bw1
    cases rr with
    | none =>
      have hb : ans = none := hans2.out
      subst hb
      go_upto_region 6 with (first
        | (go_at_call 40; refine (HR2.out).mono ?_; rintro e w3 ⟨f3, rfl, _⟩)
        | ((with_reducible refine wpList_storeF 28 ((Below.refl w3.heap.size w3).alloc (Nat.le_refl _) _) (heap_alloc_new _ _) (Nat.le_refl _) (zs32.map bv) ?_ ?_ 32 rfl ?_ ?_ ?_ ?_); rfl; rfl; kernel_rfl; rfl; exact hzone.out; intro w4 aH4 b4 k4 z4))
      have aG3 := (f3.av aG2 (Ne.symm hRG)).below b4
      have bw4 := (frT _ f3).trans (b4.mono (frT _ f3).size)
      clear aH4 b4 k4 z4 aG2
      go_wp2_with (first
        | ((with_reducible refine wpList_storeFA 28 (Below.refl w.heap.size w4) aG3 hGw (zs32.map bv) ?_ ?_ 32 rfl ?_ ?_ ?_ ?_); rfl; rfl; kernel_rfl; rfl; exact hzone.out; intro w9 a9 b9 k9 z9))
      refine bodyPost_ret (v := .tuple #[.agg (hcs zs32), .slice none 0 0, .int .i64 13]) ((results_cellAv2 (C := zs32.map bv) (by rfl) (by rfl) a9 _ Tryd.underlying28 rfl 32 rfl (by kernel_rfl)).trans (by rfl)) (by rfl) ?_
      exact ⟨bw4.trans b9, rfl⟩
    | some r =>
      obtain ⟨rx, rl, rd, rk⟩ := r
      obtain ⟨hd8, hx0⟩ := hbd.out _ rfl
      dsimp only at hd8 hx0
      have hx32 : (rx.map bv).length = 32 := by rw [List.length_map, hx0]
      have hxone : (rx.map bv).all (·.oneCell') = true := List.all_eq_true.2 (bv_one rx)
      obtain ⟨q, hq⟩ : ∃ q, q = pDone hs fl rd rk := ⟨_, rfl⟩
      have hans3 : ans = if q then some ⟨rx, rl, rd, rk⟩ else none := by
        rw [hans2.out, hq, Option.filter_some]
      have rdb : rd ≤ 80000 := by have := hnf.out; omega
      replace hx32 := Lib.hid hx32
      replace hxone := Lib.hid hxone
      replace hans3 := Lib.hid hans3
      replace hx0 := Lib.hid hx0
      replace hq := Lib.hid hq
      replace hd8 := Lib.hid hd8
      replace hbd := Lib.hid hbd
      clear hans2
      go_upto_region 5 with (first
        | (go_at_call 40; refine (HR2.out).mono ?_; rintro e w3 ⟨f3, A, c, rfl, hlc, hA3, rl3, aR3⟩; dsimp only at hlc rl3 aR3; dsimp only)
        | ((with_reducible refine wpList_storeF 28 ((Below.refl w3.heap.size w3).alloc (Nat.le_refl _) _) (heap_alloc_new _ _) (Nat.le_refl _) (rx.map bv) ?_ ?_ 32 hx32.out ?_ ?_ ?_ ?_); rfl; rfl; kernel_rfl; rfl; exact hxone.out; intro w4 aH4 b4 k4 z4))
      have aG4 := (f3.av aG2 (Ne.symm hRG)).below b4
      have hAw : ∀ a, A = some a → w.heap.size ≤ a.block := fun a e => Nat.le_trans bw2.size (hA3 a e)
      have hAG : ∀ a, A = some a → a.block ≠ G := fun a e => by have := hA3 a e; have := aG2.lt; omega
      replace hAw := Lib.hid hAw
      replace hAG := Lib.hid hAG
      have bw3 := frT _ f3
      have bw4 := bw3.trans (b4.mono bw3.size)
      have aR4 := aR3.below b4
      have rl4 := rl3.below b4
      have rf4 := hrf.below bw4
      have HD := PDone hs fl tot Ah nh ch Af nf cf rd rk R hnh.out hnf.out (by omega) w4 rf4 aR4
      rw [← hq.out] at HD
      obtain ⟨Hh, hHh⟩ : ∃ Hh, Hh = w3.heap.size := ⟨_, rfl⟩
      rw [← hHh] at aH4 ⊢
      replace hHh := Lib.hid hHh
      replace HD := Lib.hid HD
      replace nAh := Lib.hid nAh
      clear b4 k4 z4 aG2 aR3 rl3 f3 bw3 HR2
      cases q with
      | false =>
        have hb : ans = none := hans3.out
        subst hb
        go_upto_region 6 with (go_at_call 41; refine (HD.out).mono ?_; rintro e w5 ⟨rfl, b5⟩)
        have aG5 := aG4.below b5
        go_wp2_with (first
          | ((with_reducible refine wpList_storeFA 28 (Below.refl w.heap.size w5) aG5 hGw (zs32.map bv) ?_ ?_ 32 rfl ?_ ?_ ?_ ?_); rfl; rfl; kernel_rfl; rfl; exact hzone.out; intro w9 a9 b9 k9 z9))
        refine bodyPost_ret (v := .tuple #[.agg (hcs zs32), .slice none 0 0, .int .i64 13]) ((results_cellAv2 (C := zs32.map bv) (by rfl) (by rfl) a9 _ Tryd.underlying28 rfl 32 rfl (by kernel_rfl)).trans (by rfl)) (by rfl) ?_
        exact ⟨(bw4.trans (b5.mono bw4.size)).trans b9, rfl⟩
      | true =>
        have hb : ans = some ⟨rx, rl, rd, rk⟩ := hans3.out
        subst hb
        go_upto_region 7 with (go_at_call 41; refine (HD.out).mono ?_; rintro e w5 ⟨rfl, b5⟩)
        have aG5 := aG4.below b5
        have aH5 := aH4.below b5
        have rl5 := rl4.below b5
        go_wp2_with (first
          | ((with_reducible refine wpList_loadF 28 aH5 ?_ _ 32 hx32.out Tryd.underlying28 ?_ ?_ ?_); rfl; rfl; kernel_rfl)
          | ((with_reducible refine wpList_storeFA 28 (Below.refl w.heap.size w5) aG5 hGw (rx.map bv) ?_ ?_ 32 hx32.out ?_ ?_ ?_ ?_); rfl; rfl; kernel_rfl; rfl; exact hxone.out; intro w9 a9 b9 k9 z9))
        have f9 := Fr.ofStore b9 k9 z9
        refine bodyPost_ret (v := .tuple #[.agg (hcs rx), .slice A rl.length c, .int .i64 0]) ((results_cellAv2 (C := rx.map bv) (by rfl) (by rfl) a9 _ Tryd.underlying28 rfl 32 hx32.out (by kernel_rfl)).trans (by rfl)) (by rfl) ?_
        exact ⟨(bw4.trans (b5.mono bw4.size)).trans b9, A, c, rfl, hlc, hAw.out, f9.rd rl5 hAG.out⟩
end Go.Proofs.YtdkknincamkhpaaDoor
/- Plain law: a leaf climbs to the root by its branch (as XClw, without the laws of layer 10). -/
namespace Go.Proofs.YtdkknincamkhpaaDoor

/-- the place that a place is paired with -/
def mPr (i n : Nat) : Nat := min (if i % 2 = 0 then i + 1 else i - 1) (n - 1)
/-- a leaf's branch over levels -/
def mBr : List (List (List UInt8)) → Nat → List (List UInt8)
  | [], _ => []
  | x :: r, i => if 1 < x.length then x.getD (mPr i x.length) [] :: mBr r (i / 2) else mBr r i
/-- a leaf climbed by a branch -/
def mClimb : List UInt8 → List (List UInt8) → Nat → List UInt8
  | x, [], _ => x
  | x, o :: r, i => if i % 2 = 1 then mClimb (pairB o x) r (i / 2) else mClimb (pairB x o) r (i / 2)
/-- how high a tree is -/
def mHt (l : List (List UInt8)) : Nat := (mLv l).length - 1
end Go.Proofs.YtdkknincamkhpaaDoor
/- What a match is paired with, up to the root: plain laws. -/
namespace Go.Proofs.YtdkknincamkhpaaDoor
open Go.RowKit
def pSide (pos h i : Nat) (a b : List UInt8) : List (List UInt8) := if pos / 2 ^ h = 2 * i then [b] else if pos / 2 ^ h = 2 * i + 1 then [a] else []
/-- what the nodes above a place are paired with, below a node -/
def pPth (n : Nat) (fl : List UInt8) (hs : List (List UInt8)) (pos : Nat) : Nat → Nat → Nat → Nat → List (List UInt8)
  | 0, _, _, _ => []
  | h + 1, i, d, k =>
    match pDig fl d with
    | some true =>
      match pRd n fl hs h (2 * i) (d + 1) k with
      | some a =>
        if 2 * i + 1 < pWd n h then
          match pRd n fl hs h (2 * i + 1) a.d a.k with
          | some b => pPth n fl hs pos h (2 * i) (d + 1) k ++ pPth n fl hs pos h (2 * i + 1) a.d a.k ++ pSide pos h i a.x b.x
          | none => []
        else pPth n fl hs pos h (2 * i) (d + 1) k ++ pSide pos h i a.x a.x
      | none => []
    | _ => []
theorem half_pow (pos h : Nat) : pos / 2 ^ (h + 1) = pos / 2 ^ h / 2 := by rw [Nat.pow_succ, Nat.div_div_eq_div_mul]
theorem mClimb_snoc (z : List UInt8) : ∀ (p : List (List UInt8)) (x : List UInt8) (i : Nat), mClimb x (p ++ [z]) i = if i / 2 ^ p.length % 2 = 1 then pairB z (mClimb x p i) else pairB (mClimb x p i) z
  | [], x, i => by
    rw [List.nil_append, mClimb, mClimb, mClimb, mClimb, List.length_nil, Nat.pow_zero, Nat.div_one]
  | o :: p, x, i => by
    have e : i / 2 ^ (p.length + 1) = i / 2 / 2 ^ p.length := by rw [Nat.pow_succ, Nat.mul_comm, Nat.div_div_eq_div_mul]
    rw [List.cons_append, mClimb, mClimb, List.length_cons, e]
    split
    · exact mClimb_snoc z p _ _
    · exact mClimb_snoc z p _ _
theorem pPth_out (n : Nat) (fl : List UInt8) (hs : List (List UInt8)) (pos : Nat) : ∀ (h i d k : Nat), pos / 2 ^ h ≠ i → pPth n fl hs pos h i d k = []
  | 0, _, _, _, _ => by rw [pPth]
  | h + 1, i, d, k, hne => by
    rw [half_pow] at hne
    have h1 := pPth_out n fl hs pos h (2 * i) (d + 1) k (by omega)
    have hs1 : ∀ a b, pSide pos h i a b = [] := fun a b => by
      unfold pSide
      rw [if_neg (by omega), if_neg (by omega)]
    rw [pPth]
    split
    · split
      · rename_i a _
        have h2 := pPth_out n fl hs pos h (2 * i + 1) a.d a.k (by omega)
        split
        · split
          · rw [h1, h2, hs1]; rfl
          · rfl
        · rw [h1, hs1]; rfl
      · rfl
    · rfl
theorem div_of_range {pos h i : Nat} (h1 : i * 2 ^ h ≤ pos) (h2 : pos < (i + 1) * 2 ^ h) : pos / 2 ^ h = i := by
  have hp : 0 < 2 ^ h := Nat.pow_pos (by omega)
  apply Nat.div_eq_of_lt_le
  · exact h1
  · exact h2
/-- a match climbs to its node -/
theorem pPth_in (n : Nat) (fl : List UInt8) (hs : List (List UInt8)) (pos : Nat) (y : List UInt8) : ∀ (h i d k : Nat) (r : PRes), i < pWd n h → pRd n fl hs h i d k = some r → (pos, y) ∈ r.l → (pPth n fl hs pos h i d k).length = h ∧ mClimb y (pPth n fl hs pos h i d k) pos = r.x
  | 0, i, d, k, r, _, hr, hp => by
    rw [pRd] at hr
    cases e : pDig fl d with
    | none => rw [e] at hr; cases hr
    | some b =>
      rw [e, Option.bind_some] at hr
      cases e1 : hs[k]? with
      | none => rw [e1] at hr; cases hr
      | some x =>
        rw [e1] at hr
        obtain rfl := Option.some.inj hr
        dsimp only at hp ⊢
        split at hp
        · have := List.mem_singleton.1 hp
          injection this with q1 q2
          rw [pPth, mClimb]
          exact ⟨rfl, q2⟩
        · cases hp
  | h + 1, i, d, k, r, hi, hr, hp => by
    rw [pRd] at hr
    rw [pPth]
    rw [pWd_succ] at hi
    cases e : pDig fl d with
    | none => rw [e] at hr; cases hr
    | some b =>
      rw [e, Option.bind_some] at hr
      cases b with
      | false =>
        rw [if_neg (by simp)] at hr
        cases e1 : hs[k]? with
        | none => rw [e1] at hr; cases hr
        | some x =>
          rw [e1] at hr
          obtain rfl := Option.some.inj hr
          cases hp
      | true =>
        rw [if_pos rfl] at hr
        cases e1 : pRd n fl hs h (2 * i) (d + 1) k with
        | none => rw [e1] at hr; cases hr
        | some a =>
          rw [e1, Option.bind_some] at hr
          have pa := pRd_places n fl hs h (2 * i) (d + 1) k a (by omega) e1
          dsimp only
          split at hr
          · rename_i hw
            rw [if_pos hw]
            cases e2 : pRd n fl hs h (2 * i + 1) a.d a.k with
            | none => rw [e2] at hr; cases hr
            | some c =>
              rw [e2, Option.bind_some] at hr
              have pc := pRd_places n fl hs h (2 * i + 1) a.d a.k c hw e2
              dsimp only
              split at hr
              · cases hr
              · obtain rfl := Option.some.inj hr
                dsimp only at hp ⊢
                rcases List.mem_append.1 hp with hp | hp
                · obtain ⟨q1, q2, _⟩ := pa.1 _ hp
                  have hpos : pos / 2 ^ h = 2 * i := div_of_range q1 q2
                  obtain ⟨s1, s2⟩ := pPth_in n fl hs pos y h (2 * i) (d + 1) k a (by omega) e1 hp
                  rw [pPth_out n fl hs pos h (2 * i + 1) a.d a.k (by omega), List.append_nil]
                  unfold pSide
                  rw [if_pos hpos, List.length_append, s1, mClimb_snoc, s1, hpos, if_neg (by omega), s2]
                  exact ⟨rfl, rfl⟩
                · obtain ⟨q1, q2, _⟩ := pc.1 _ hp
                  have hpos : pos / 2 ^ h = 2 * i + 1 := div_of_range q1 q2
                  obtain ⟨s1, s2⟩ := pPth_in n fl hs pos y h (2 * i + 1) a.d a.k c hw e2 hp
                  rw [pPth_out n fl hs pos h (2 * i) (d + 1) k (by omega), List.nil_append]
                  unfold pSide
                  rw [if_neg (by omega), if_pos hpos, List.length_append, s1, mClimb_snoc, s1, hpos, if_pos (by omega), s2]
                  exact ⟨rfl, rfl⟩
          · rename_i hw
            rw [if_neg hw]
            obtain rfl := Option.some.inj hr
            dsimp only at hp ⊢
            obtain ⟨q1, q2, _⟩ := pa.1 _ hp
            have hpos : pos / 2 ^ h = 2 * i := div_of_range q1 q2
            obtain ⟨s1, s2⟩ := pPth_in n fl hs pos y h (2 * i) (d + 1) k a (by omega) e1 hp
            unfold pSide
            rw [if_pos hpos, List.length_append, s1, mClimb_snoc, s1, hpos, if_neg (by omega), s2]
            exact ⟨rfl, rfl⟩
theorem pPth_32 (n : Nat) (fl : List UInt8) (hs : List (List UInt8)) (h32 : All32 hs) (pos : Nat) : ∀ (h i d k : Nat), All32 (pPth n fl hs pos h i d k)
  | 0, _, _, _ => by rw [pPth]; exact fun x hx => by cases hx
  | h + 1, i, d, k => by
    have hs1 : ∀ a b : List UInt8, a.length = 32 → b.length = 32 → All32 (pSide pos h i a b) := fun a b ha hb => by
      unfold pSide
      split
      · exact All32.one hb
      · split
        · exact All32.one ha
        · exact fun x hx => by cases hx
    have app : ∀ a b : List (List UInt8), All32 a → All32 b → All32 (a ++ b) := fun a b ha hb x hx => by
      rcases List.mem_append.1 hx with hx | hx
      · exact ha x hx
      · exact hb x hx
    have nil : All32 ([] : List (List UInt8)) := fun x hx => by cases hx
    rw [pPth]
    split
    · split
      · rename_i a e1
        have a32 := (pRd_bounds n fl hs h32 _ _ _ _ _ e1).2.2.2.2.2.1
        split
        · split
          · rename_i b e2
            have b32 := (pRd_bounds n fl hs h32 _ _ _ _ _ e2).2.2.2.2.2.1
            exact app _ _ (app _ _ (pPth_32 n fl hs h32 pos h _ _ _) (pPth_32 n fl hs h32 pos h _ _ _)) (hs1 _ _ a32 b32)
          · exact nil
        · exact app _ _ (pPth_32 n fl hs h32 pos h _ _ _) (hs1 _ _ a32 a32)
      · exact nil
    · exact nil
end Go.Proofs.YtdkknincamkhpaaDoor
/- The texts that a climb hashes, and what witnesses against two: plain laws. -/
namespace Go.Proofs.YtdkknincamkhpaaDoor
/-- the texts that a climb hashes -/
def qSt : List UInt8 → List (List UInt8) → Nat → List (List UInt8)
  | _, [], _ => []
  | x, o :: r, i => if i % 2 = 1 then (o ++ x) :: qSt (pairB o x) r (i / 2) else (x ++ o) :: qSt (pairB x o) r (i / 2)
theorem qSt_length : ∀ (x : List UInt8) (p : List (List UInt8)) (i : Nat), (qSt x p i).length = p.length
  | _, [], _ => rfl
  | x, o :: r, i => by
    rw [qSt]
    split
    · rw [List.length_cons, List.length_cons, qSt_length]
    · rw [List.length_cons, List.length_cons, qSt_length]
theorem qSt_64 : ∀ (x : List UInt8) (p : List (List UInt8)) (i : Nat), x.length = 32 → All32 p → ∀ t ∈ qSt x p i, t.length = 64
  | _, [], _, _, _, _, ht => by cases ht
  | x, o :: r, i, hx, hp, t, ht => by
    have ho := hp o (List.mem_cons_self ..)
    have hr : All32 r := fun y hy => hp y (List.mem_cons_of_mem _ hy)
    rw [qSt] at ht
    split at ht
    · rcases List.mem_cons.1 ht with rfl | ht
      · rw [List.length_append, ho, hx]
      · exact qSt_64 _ r _ (pairB_length _ _) hr t ht
    · rcases List.mem_cons.1 ht with rfl | ht
      · rw [List.length_append, ho, hx]
      · exact qSt_64 _ r _ (pairB_length _ _) hr t ht
/-- what a climb has come to after so many texts -/
def qAt (x : List UInt8) (p : List (List UInt8)) (i k : Nat) : List UInt8 := mClimb x (p.take k) i
/-- the first place where two lists of texts have one double sum -/
def qFst : List (List UInt8) → List (List UInt8) → Option (List UInt8 × List UInt8)
  | a :: l, b :: m => if dblB a = dblB b then some (a, b) else qFst l m
  | _, _ => none
/-- what witnesses: a pair of texts -/
def qWit (p : List UInt8 × List UInt8) : List UInt8 × List UInt8 := if sumB p.1 = sumB p.2 then p else (sumB p.1, sumB p.2)
end Go.Proofs.YtdkknincamkhpaaDoor
/- What a part tells at a place, its path, and what witnesses against two parts: plain model and laws. -/
namespace Go.Proofs.YtdkknincamkhpaaDoor
/-- the hash of the match at a place -/
def qFind (l : List (Nat × List UInt8)) (pos : Int) : Option (List UInt8) := (l.find? fun p => (p.1 : Int) == pos).map (·.2)
theorem qFind_cons (p : Nat × List UInt8) (l : List (Nat × List UInt8)) (pos : Int) : qFind (p :: l) pos = if (p.1 : Int) = pos then some p.2 else qFind l pos := by
  unfold qFind
  rw [List.find?_cons]
  by_cases h : (p.1 : Int) = pos
  · rw [if_pos h, show ((p.1 : Int) == pos) = true from beq_iff_eq.2 h]
    rfl
  · rw [if_neg h, show ((p.1 : Int) == pos) = false from beq_eq_false_iff_ne.2 h]
theorem qFind_mem : ∀ (l : List (Nat × List UInt8)) (pos : Int) (y : List UInt8), qFind l pos = some y → ∃ p : Nat, (p : Int) = pos ∧ (p, y) ∈ l
  | [], _, _, h => by cases h
  | p :: l, pos, y, h => by
    rw [qFind_cons] at h
    split at h
    · rename_i hp
      obtain rfl := Option.some.inj h
      exact ⟨p.1, hp, List.mem_cons_self ..⟩
    · obtain ⟨q, h1, h2⟩ := qFind_mem l pos y h
      exact ⟨q, h1, List.mem_cons_of_mem _ h2⟩
/-- the root and the hash that a part tells at a place -/
def qFnd (tot : Nat) (hs : List (List UInt8)) (fl : List UInt8) (pos : Int) : Option (List UInt8 × List UInt8) := (pExt tot hs fl).bind fun r => (qFind r.l pos).map fun y => (r.x, y)
/-- what a place is paired with, up to the root -/
def qPath (tot : Nat) (hs : List (List UInt8)) (fl : List UInt8) (pos : Int) : List (List UInt8) := pPth tot fl hs pos.toNat (pHt tot) 0 0 0
theorem qExt_facts {tot : Nat} {hs : List (List UInt8)} {fl : List UInt8} {r : PRes} (h : pExt tot hs fl = some r) : 0 < tot ∧ tot ≤ 4096 ∧ pRd tot fl hs (pHt tot) 0 0 0 = some r ∧ 0 < pWd tot (pHt tot) := by
  unfold pExt at h
  split at h
  · rename_i hm
    unfold pMay at hm
    have hm := of_decide_eq_true hm
    refine ⟨by omega, hm.2.1, (Option.filter_eq_some_iff.1 h).1, ?_⟩
    have hp : 0 < 2 ^ pHt tot := Nat.pow_pos (by omega)
    unfold pWd
    exact Nat.div_pos (by omega) hp
  · cases h
/-- a match climbs to the root -/
theorem qPath_climbs {tot : Nat} {hs : List (List UInt8)} {fl : List UInt8} {pos : Int} {x y : List UInt8} (h : qFnd tot hs fl pos = some (x, y)) : (qPath tot hs fl pos).length = pHt tot ∧ mClimb y (qPath tot hs fl pos) pos.toNat = x ∧ 0 ≤ pos ∧ tot ≤ 4096 ∧ pos < 4096 := by
  unfold qFnd at h
  obtain ⟨r, h1, h2⟩ := Option.bind_eq_some_iff.1 h
  obtain ⟨z, h3, h4⟩ := Option.map_eq_some_iff.1 h2
  injection h4 with h5 h6
  subst h5 h6
  obtain ⟨p, rfl, h6⟩ := qFind_mem _ _ _ h3
  obtain ⟨_, hb, h7, h8⟩ := qExt_facts h1
  have := pPth_in tot fl hs p z _ _ _ _ r h8 h7 h6
  have hp := ((pRd_places tot fl hs _ _ _ _ r h8 h7).1 _ h6).2.2
  dsimp only at hp
  exact ⟨this.1, this.2, by omega, hb, by omega⟩
theorem qPath_32 (tot : Nat) (hs : List (List UInt8)) (fl : List UInt8) (pos : Int) (h32 : All32 hs) : All32 (qPath tot hs fl pos) := pPth_32 tot fl hs h32 _ _ _ _ _
theorem qFnd_32 {tot : Nat} {hs : List (List UInt8)} {fl : List UInt8} {pos : Int} {x y : List UInt8} (h32 : All32 hs) (h : qFnd tot hs fl pos = some (x, y)) : x.length = 32 ∧ y.length = 32 := by
  unfold qFnd at h
  obtain ⟨r, h1, h2⟩ := Option.bind_eq_some_iff.1 h
  obtain ⟨z, h3, h4⟩ := Option.map_eq_some_iff.1 h2
  injection h4 with h5 h6
  subst h5 h6
  obtain ⟨p, _, h6⟩ := qFind_mem _ _ _ h3
  have := pRd_bounds tot fl hs h32 _ _ _ _ r (qExt_facts h1).2.2.1
  exact ⟨this.2.2.2.2.2.1, this.2.2.2.2.2.2 _ h6⟩
/-- what witnesses against two parts -/
def qClash (t1 : Nat) (hs1 : List (List UInt8)) (fl1 : List UInt8) (t2 : Nat) (hs2 : List (List UInt8)) (fl2 : List UInt8) (pos : Int) : Option (List UInt8 × List UInt8) :=
  (qFnd t1 hs1 fl1 pos).bind fun a => (qFnd t2 hs2 fl2 pos).bind fun b =>
    if a.1 = b.1 ∧ t1 = t2 ∧ a.2 ≠ b.2 then (qFst (qSt a.2 (qPath t1 hs1 fl1 pos) pos.toNat) (qSt b.2 (qPath t2 hs2 fl2 pos) pos.toNat)).map qWit else none
end Go.Proofs.YtdkknincamkhpaaDoor
