/- partial.Extract. -/
import Derived.Test.YtmdllemgjhkphaaDoorPn
namespace Go.Proofs.YtmdllemgjhkphaaDoor
open Go.RowKit
attribute [local go_sem high] slB_lh slB_l slB_h
/-- what Extract answers -/
def ExtPost (w0 : World) (ans : Option PRes) (e : Ending) (w' : World) : Prop :=
  Below w0.heap.size w0 w' ∧ match ans with
  | none => e = .returned (.tuple #[.agg (hcs zs32), .slice none 0 0, .int .i64 13])
  | some r => ∃ A c, e = .returned (.tuple #[.agg (hcs r.x), .slice A r.l.length c, .int .i64 0]) ∧ r.l.length ≤ c ∧ (∀ a, A = some a → w0.heap.size ≤ a.block) ∧ Rd w' A (mlc r.l)
theorem built_rd (tot : Nat) (Ah : Option Addr) (nh ch : Nat) (Af : Option Addr) (nf cf : Nat) : Tryd.prog.built 62 [(0, .agg (trc tot Ah nh ch Af nf cf).toArray)] = some (rdc tot Ah nh ch Af nf cf 0 0).toArray := by
  kernel_rfl
set_option maxRecDepth 100000 in
set_option maxHeartbeats 8000000 in
theorem PExt (fl : List UInt8) (hs : List (List UInt8)) (h32 : All32 hs) (tot : Nat) (Ah : Option Addr) (nh ch : Nat) (Af : Option Addr) (nf cf : Nat) (hnh : hs.length = nh) (hnf : fl.length = nf) (ht : tot < 4294967296) (hnf2 : nf ≤ 10000) (hnh2 : nh ≤ 10000) (w : World)
    (hrh : Rd w Ah (hcl hs)) (hrf : Rd w Af (fl.map bv)) (hT : Tabs w) :
    Calls Tryd.prog 10 #[.agg (trc tot Ah nh ch Af nf cf).toArray] w (ExtPost w (pExt tot hs fl)) := by
  obtain ⟨ans, hans⟩ : ∃ ans, ans = pExt tot hs fl := ⟨_, rfl⟩
  rw [← hans]
  have hz := zeros_32
  rw [show List.replicate 32 (0 : UInt8) = zs32 from rfl] at hz
  obtain ⟨T, hT1⟩ : ∃ T, T = w.heap.size := ⟨_, rfl⟩
  obtain ⟨G, hG⟩ : ∃ G, G = w.heap.size + 1 := ⟨_, rfl⟩
  obtain ⟨W, hW⟩ : ∃ W, W = (w.alloc (.cells (trc tot Ah nh ch Af nf cf).toArray 34)).alloc (.cells (zs32.map bv).toArray 28) := ⟨_, rfl⟩
  have bW : Below w.heap.size w W := by rw [hW]; exact ((Below.refl _ _).alloc (Nat.le_refl _) _).alloc (by simp) _
  have aT : Av W T 34 (trc tot Ah nh ch Af nf cf) := by rw [hW, hT1]; exact Av.newer w (trc tot Ah nh ch Af nf cf) _ _
  have aG : Av W G 28 (zs32.map bv) := by rw [hW, hG, ← World.size_alloc w (.cells (trc tot Ah nh ch Af nf cf).toArray 34)]; exact Av.new _ _ _
  have hGw : w.heap.size ≤ G := by omega
  have hzone : (zs32.map bv).all (·.oneCell') = true := rfl
  have HM := fun w' => PMay hs fl tot Ah nh ch Af nf cf hnh hnf (by omega) (by omega) ht w'
  obtain ⟨m, hm⟩ : ∃ m, m = pMay tot hs fl := ⟨_, rfl⟩
  rw [← hm] at HM
  have sW : W.heap.size = w.heap.size + 2 := by rw [hW]; simp
  replace hW := Lib.hid hW
  replace hT1 := Lib.hid hT1
  replace hG := Lib.hid hG
  replace hzone := Lib.hid hzone
  replace HM := Lib.hid HM
  replace hnh := Lib.hid hnh
  replace hnf := Lib.hid hnf
  replace hans := Lib.hid hans
  replace sW := Lib.hid sW
  go_enter Tryd.func10, Tryd.ntmps10
  go_upto_region 1 with fail
  rw [← hT1.out]
  rw [show T + 1 = G by rw [hT1.out, hG.out]]
  rw [← hW.out]
  cases m with
  | false =>
    have hb : ans = none := by
      have := hm
      rw [hans.out, pExt, ← this]
      rfl
    subst hb
    replace hm := Lib.hid hm
    go_upto_region 2 with (first
      | ((with_reducible refine wpList_loadF 34 aT ?_ _ 3 ?_ Tryd.underlying34 ?_ ?_ ?_); rfl; rfl; rfl; kernel_rfl)
      | (go_at_call 22; refine (HM.out W).mono ?_; rintro e w1 ⟨rfl, b1⟩))
    have aG1 := aG.below b1
    go_wp2_with (first
      | ((with_reducible refine wpList_storeFA 28 (Below.refl w.heap.size w1) aG1 hGw (zs32.map bv) ?_ ?_ 32 rfl ?_ ?_ ?_ ?_); rfl; rfl; kernel_rfl; rfl; exact hzone.out; intro w9 a9 b9 k9 z9))
    refine bodyPost_ret (v := .tuple #[.agg (hcs zs32), .slice none 0 0, .int .i64 13]) ((results_cellAv2 (C := zs32.map bv) (by rfl) (by rfl) a9 _ Tryd.underlying28 rfl 32 rfl (by kernel_rfl)).trans (by rfl)) (by rfl) ?_
    exact ⟨(bW.trans (b1.mono bW.size)).trans (b9.mono (Nat.le_refl _)), rfl⟩
  | true =>
    have may : tot ≠ 0 ∧ tot ≤ 4096 ∧ hs.length ≤ tot ∧ hs.length ≤ 8 * fl.length := by
      have := hm.symm
      unfold pMay at this
      exact of_decide_eq_true this
    have ht0 : 0 < tot := by omega
    have ht2 : tot ≤ 4096 := may.2.1
    replace may := Lib.hid may
    have hans2 : ans = (pRd tot fl hs (pHt tot) 0 0 0).filter fun r => pDone hs fl r.d r.k := by
      have := hm
      rw [hans.out, pExt, ← this]
      rfl
    obtain ⟨rr, hrr⟩ : ∃ rr, rr = pRd tot fl hs (pHt tot) 0 0 0 := ⟨_, rfl⟩
    have HR := fun R w' a b c d e f => PRead fl hs h32 tot Ah nh ch Af nf cf R hnh.out hnf.out ht0 ht2 hnf2 hnh2 w' a b c d e f
    have hbd : ∀ r, rr = some r → r.d ≤ 8 * fl.length ∧ r.x.length = 32 := fun r hr => by
      rw [hrr] at hr
      have := pRd_bounds tot fl hs h32 _ _ _ _ _ hr
      exact ⟨this.2.1, this.2.2.2.2.2.1⟩
    rw [← hrr] at HR hans2
    replace HR := Lib.hid HR
    replace hrr := Lib.hid hrr
    replace hm := Lib.hid hm
    replace hbd := Lib.hid hbd
    clear hans
    go_upto_region 3 with (first
      | ((with_reducible refine wpList_loadF 34 aT ?_ _ 3 ?_ Tryd.underlying34 ?_ ?_ ?_); rfl; rfl; rfl; kernel_rfl)
      | (go_at_call 22; refine (HM.out W).mono ?_; rintro e w1 ⟨rfl, b1⟩))
    have aG1 := aG.below b1
    have aT1 := aT.below b1
    have bw1 := bW.trans (b1.mono bW.size)
    have sw1 : w.heap.size + 2 ≤ w1.heap.size := by rw [← sW.out]; exact b1.size
    replace hans2 := Lib.hid hans2
    clear aG aT b1 bW HM
    go_upto_region 4 with (first
      | ((with_reducible refine wpList_loadF 34 aT1 ?_ _ 3 ?_ Tryd.underlying34 ?_ ?_ ?_); rfl; rfl; rfl; kernel_rfl)
      | ((with_reducible refine wpList_bld (.agg (rdc tot Ah nh ch Af nf cf 0 0).toArray) ?_ ?_); kernel_rfl))
    obtain ⟨W2, hW2⟩ : ∃ W2, W2 = w1.alloc (.cells (rdc tot Ah nh ch Af nf cf 0 0).toArray 62) := ⟨_, rfl⟩
    obtain ⟨R, hR⟩ : ∃ R, R = w1.heap.size := ⟨_, rfl⟩
    have aR : Av W2 R 62 (rdc tot Ah nh ch Af nf cf 0 0) := by rw [hW2, hR]; exact Av.new _ _ _
    have b2 : Below w1.heap.size w1 W2 := by rw [hW2]; exact (Below.refl _ _).alloc (Nat.le_refl _) _
    have bw2 := bw1.trans (b2.mono bw1.size)
    have aG2 := aG1.below b2
    have rh2 := hrh.below bw2
    have rf2 := hrf.below bw2
    have hRw : w.heap.size ≤ R := by rw [hR]; omega
    have hRG : R ≠ G := by have := aG1.lt; omega
    have frT : ∀ w', Fr (fun j => j = R) W2 w' → Below w.heap.size w w' := fun w' f => bw2.trans (f.below (fun k hk => by rw [hk]; exact hRw) bw2.size)
    have nAh : hcl hs ≠ [] → ∀ a, Ah = some a → a.block ≠ R := fun hne a ha => by have := hrh.lt hne a ha; omega
    have nAf : fl.map bv ≠ [] → ∀ a, Af = some a → a.block ≠ R := fun hne a ha => by have := hrf.lt hne a ha; omega
    have HR2 := HR.out R W2 aR rh2 rf2 nAh nAf (fun w' f => hT.below (frT w' f))
    rw [← hW2, ← hR]
    replace HR2 := Lib.hid HR2
    replace hW2 := Lib.hid hW2
    replace hR := Lib.hid hR
    replace nAh := Lib.hid nAh
    replace nAf := Lib.hid nAf
    clear HR aG1 aT1 b2 bw1
    cases rr with
    | none =>
      have hb : ans = none := hans2.out
      subst hb
      go_upto_region 6 with (first
        | (go_at_call 23; refine (HR2.out).mono ?_; rintro e w3 ⟨f3, rfl, _⟩)
        | ((with_reducible refine wpList_storeF 28 ((Below.refl w3.heap.size w3).alloc (Nat.le_refl _) _) (heap_alloc_new _ _) (Nat.le_refl _) (zs32.map bv) ?_ ?_ 32 rfl ?_ ?_ ?_ ?_); rfl; rfl; kernel_rfl; rfl; exact hzone.out; intro w4 aH4 b4 k4 z4))
      have aG3 := (f3.av aG2 (Ne.symm hRG)).below b4
      have bw4 := (frT _ f3).trans (b4.mono (frT _ f3).size)
      clear aH4 b4 k4 z4 aG2
      go_wp2_with (first
        | ((with_reducible refine wpList_storeFA 28 (Below.refl w.heap.size w4) aG3 hGw (zs32.map bv) ?_ ?_ 32 rfl ?_ ?_ ?_ ?_); rfl; rfl; kernel_rfl; rfl; exact hzone.out; intro w9 a9 b9 k9 z9))
      refine bodyPost_ret (v := .tuple #[.agg (hcs zs32), .slice none 0 0, .int .i64 13]) ((results_cellAv2 (C := zs32.map bv) (by rfl) (by rfl) a9 _ Tryd.underlying28 rfl 32 rfl (by kernel_rfl)).trans (by rfl)) (by rfl) ?_
      exact ⟨bw4.trans b9, rfl⟩
    | some r =>
      obtain ⟨rx, rl, rd, rk⟩ := r
      obtain ⟨hd8, hx0⟩ := hbd.out _ rfl
      dsimp only at hd8 hx0
      have hx32 : (rx.map bv).length = 32 := by rw [List.length_map, hx0]
      have hxone : (rx.map bv).all (·.oneCell') = true := List.all_eq_true.2 (bv_one rx)
      obtain ⟨q, hq⟩ : ∃ q, q = pDone hs fl rd rk := ⟨_, rfl⟩
      have hans3 : ans = if q then some ⟨rx, rl, rd, rk⟩ else none := by
        rw [hans2.out, hq, Option.filter_some]
      have rdb : rd ≤ 80000 := by have := hnf.out; omega
      replace hx32 := Lib.hid hx32
      replace hxone := Lib.hid hxone
      replace hans3 := Lib.hid hans3
      replace hx0 := Lib.hid hx0
      replace hq := Lib.hid hq
      replace hd8 := Lib.hid hd8
      replace hbd := Lib.hid hbd
      clear hans2
      go_upto_region 5 with (first
        | (go_at_call 23; refine (HR2.out).mono ?_; rintro e w3 ⟨f3, A, c, rfl, hlc, hA3, rl3, aR3⟩; dsimp only at hlc rl3 aR3; dsimp only)
        | ((with_reducible refine wpList_storeF 28 ((Below.refl w3.heap.size w3).alloc (Nat.le_refl _) _) (heap_alloc_new _ _) (Nat.le_refl _) (rx.map bv) ?_ ?_ 32 hx32.out ?_ ?_ ?_ ?_); rfl; rfl; kernel_rfl; rfl; exact hxone.out; intro w4 aH4 b4 k4 z4))
      have aG4 := (f3.av aG2 (Ne.symm hRG)).below b4
      have hAw : ∀ a, A = some a → w.heap.size ≤ a.block := fun a e => Nat.le_trans bw2.size (hA3 a e)
      have hAG : ∀ a, A = some a → a.block ≠ G := fun a e => by have := hA3 a e; have := aG2.lt; omega
      replace hAw := Lib.hid hAw
      replace hAG := Lib.hid hAG
      have bw3 := frT _ f3
      have bw4 := bw3.trans (b4.mono bw3.size)
      have aR4 := aR3.below b4
      have rl4 := rl3.below b4
      have rf4 := hrf.below bw4
      have HD := PDone hs fl tot Ah nh ch Af nf cf rd rk R hnh.out hnf.out (by omega) w4 rf4 aR4
      rw [← hq.out] at HD
      obtain ⟨Hh, hHh⟩ : ∃ Hh, Hh = w3.heap.size := ⟨_, rfl⟩
      rw [← hHh] at aH4 ⊢
      replace hHh := Lib.hid hHh
      replace HD := Lib.hid HD
      replace nAh := Lib.hid nAh
      clear b4 k4 z4 aG2 aR3 rl3 f3 bw3 HR2
      cases q with
      | false =>
        have hb : ans = none := hans3.out
        subst hb
        go_upto_region 6 with (go_at_call 24; refine (HD.out).mono ?_; rintro e w5 ⟨rfl, b5⟩)
        have aG5 := aG4.below b5
        go_wp2_with (first
          | ((with_reducible refine wpList_storeFA 28 (Below.refl w.heap.size w5) aG5 hGw (zs32.map bv) ?_ ?_ 32 rfl ?_ ?_ ?_ ?_); rfl; rfl; kernel_rfl; rfl; exact hzone.out; intro w9 a9 b9 k9 z9))
        refine bodyPost_ret (v := .tuple #[.agg (hcs zs32), .slice none 0 0, .int .i64 13]) ((results_cellAv2 (C := zs32.map bv) (by rfl) (by rfl) a9 _ Tryd.underlying28 rfl 32 rfl (by kernel_rfl)).trans (by rfl)) (by rfl) ?_
        exact ⟨(bw4.trans (b5.mono bw4.size)).trans b9, rfl⟩
      | true =>
        have hb : ans = some ⟨rx, rl, rd, rk⟩ := hans3.out
        subst hb
        go_upto_region 7 with (go_at_call 24; refine (HD.out).mono ?_; rintro e w5 ⟨rfl, b5⟩)
        have aG5 := aG4.below b5
        have aH5 := aH4.below b5
        have rl5 := rl4.below b5
        go_wp2_with (first
          | ((with_reducible refine wpList_loadF 28 aH5 ?_ _ 32 hx32.out Tryd.underlying28 ?_ ?_ ?_); rfl; rfl; kernel_rfl)
          | ((with_reducible refine wpList_storeFA 28 (Below.refl w.heap.size w5) aG5 hGw (rx.map bv) ?_ ?_ 32 hx32.out ?_ ?_ ?_ ?_); rfl; rfl; kernel_rfl; rfl; exact hxone.out; intro w9 a9 b9 k9 z9))
        have f9 := Fr.ofStore b9 k9 z9
        refine bodyPost_ret (v := .tuple #[.agg (hcs rx), .slice A rl.length c, .int .i64 0]) ((results_cellAv2 (C := rx.map bv) (by rfl) (by rfl) a9 _ Tryd.underlying28 rfl 32 hx32.out (by kernel_rfl)).trans (by rfl)) (by rfl) ?_
        exact ⟨(bw4.trans (b5.mono bw4.size)).trans b9, A, c, rfl, hlc, hAw.out, f9.rd rl5 hAG.out⟩
end Go.Proofs.YtmdllemgjhkphaaDoor
