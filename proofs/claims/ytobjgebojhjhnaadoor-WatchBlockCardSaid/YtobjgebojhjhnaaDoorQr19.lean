import Derived.Test.YtobjgebojhjhnaaDoorPn
namespace Go.Proofs.YtobjgebojhjhnaaDoor
open Go.RowKit
attribute [local go_sem high] slB_lh slB_l slB_h
def ExtPost (w0 : World) (ans : Option PRes) (e : Ending) (w' : World) : Prop :=
 Below w0.heap.size w0 w' ∧ match ans with
 | none => e = .returned (.tuple #[.agg (hcs zs32), .slice none 0 0, .int .i64 13])
 | some r => ∃ A c, e = .returned (.tuple #[.agg (hcs r.x), .slice A r.l.length c, .int .i64 0]) ∧ r.l.length ≤ c ∧ (∀ a, A = some a → w0.heap.size ≤ a.block) ∧ Rd w' A (mlc r.l)
set_option maxRecDepth 100000 in
set_option maxHeartbeats 8000000 in
theorem PExt (fl : List UInt8) (hs : List (List UInt8)) (h32 : All32 hs) (tot : Nat) (Ah : Option Addr) (nh ch : Nat) (Af : Option Addr) (nf cf : Nat) (hnh : hs.length = nh) (hnf : fl.length = nf) (ht : tot < 4294967296) (hnf2 : nf ≤ 10000) (hnh2 : nh ≤ 10000) (w : World)
  (hrh : Rd w Ah (hcl hs)) (hrf : Rd w Af (fl.map bv)) (hT : Tabs w) :
  Calls Tryd.prog 15 #[.agg (trc tot Ah nh ch Af nf cf).toArray] w (ExtPost w (pExt tot hs fl)) := by
 obtain ⟨ans, hans⟩ : ∃ ans, ans = pExt tot hs fl := ⟨_, rfl⟩
 rw [← hans]
 have hz := zeros_32
 rw [show List.replicate 32 (0 : UInt8) = zs32 from rfl] at hz
 obtain ⟨T, hT1⟩ : ∃ T, T = w.heap.size := ⟨_, rfl⟩
 obtain ⟨G, hG⟩ : ∃ G, G = w.heap.size + 1 := ⟨_, rfl⟩
 obtain ⟨W, hW⟩ : ∃ W, W = (w.alloc (.cells (trc tot Ah nh ch Af nf cf).toArray 53)).alloc (.cells (zs32.map bv).toArray 30) := ⟨_, rfl⟩
 have bW : Below w.heap.size w W := by rw [hW]; exact ((Below.refl _ _).alloc (Nat.le_refl _) _).alloc (by simp) _
 have aT : Av W T 53 (trc tot Ah nh ch Af nf cf) := by rw [hW, hT1]; exact Av.newer w (trc tot Ah nh ch Af nf cf) _ _
 have aG : Av W G 30 (zs32.map bv) := by rw [hW, hG, ← World.size_alloc w (.cells (trc tot Ah nh ch Af nf cf).toArray 53)]; exact Av.new _ _ _
 have hGw : w.heap.size ≤ G := by omega
 have hzone : (zs32.map bv).all (·.oneCell') = true := rfl
 have HM := fun w' => PMay hs fl tot Ah nh ch Af nf cf hnh hnf (by omega) (by omega) ht w'
 obtain ⟨m, hm⟩ : ∃ m, m = pMay tot hs fl := ⟨_, rfl⟩
 rw [← hm] at HM
 have sW : W.heap.size = w.heap.size + 2 := by rw [hW]; simp
 replace hW := Lib.hid hW
 replace hT1 := Lib.hid hT1
 replace hG := Lib.hid hG
 replace hzone := Lib.hid hzone
 replace HM := Lib.hid HM
 replace hnh := Lib.hid hnh
 replace hnf := Lib.hid hnf
 replace hans := Lib.hid hans
 replace sW := Lib.hid sW
 go_enter Tryd.func15, Tryd.ntmps15
 go_upto_region 1 with fail
 rw [← hT1.out]
 rw [show T + 1 = G by rw [hT1.out, hG.out]]
 rw [← hW.out]
 cases m with
 | false =>
  have hb : ans = none := by
   have := hm
   rw [hans.out, pExt, ← this]
   rfl
  subst hb
  replace hm := Lib.hid hm
  go_upto_region 2 with (first
   | ((with_reducible refine wpList_loadF 53 aT ?_ _ 3 ?_ Tryd.underlying53 ?_ ?_ ?_); rfl; rfl; rfl; kernel_rfl)
   | (go_at_call 37; refine (HM.out W).mono ?_; rintro e w1 ⟨rfl, b1⟩))
  have aG1 := aG.below b1
  go_wp2_with (first
   | ((with_reducible refine wpList_storeFA 30 (Below.refl w.heap.size w1) aG1 hGw (zs32.map bv) ?_ ?_ 32 rfl ?_ ?_ ?_ ?_); rfl; rfl; kernel_rfl; rfl; exact hzone.out; intro w9 a9 b9 k9 z9))
  refine bodyPost_ret (v := .tuple #[.agg (hcs zs32), .slice none 0 0, .int .i64 13]) ((results_cellAv2 (C := zs32.map bv) (by rfl) (by rfl) a9 _ Tryd.underlying30 rfl 32 rfl (by kernel_rfl)).trans (by rfl)) (by rfl) ?_
  exact ⟨(bW.trans (b1.mono bW.size)).trans (b9.mono (Nat.le_refl _)), rfl⟩
 | true =>
  have may : tot ≠ 0 ∧ tot ≤ 4096 ∧ hs.length ≤ tot ∧ hs.length ≤ 8 * fl.length := by
   have := hm.symm
   unfold pMay at this
   exact of_decide_eq_true this
  have ht0 : 0 < tot := by omega
  have ht2 : tot ≤ 4096 := may.2.1
  replace may := Lib.hid may
  have hans2 : ans = (pRd tot fl hs (pHt tot) 0 0 0).filter fun r => pDone hs fl r.d r.k := by
   have := hm
   rw [hans.out, pExt, ← this]
   rfl
  obtain ⟨rr, hrr⟩ : ∃ rr, rr = pRd tot fl hs (pHt tot) 0 0 0 := ⟨_, rfl⟩
  have HR := fun R w' a b c d e f => PRead fl hs h32 tot Ah nh ch Af nf cf R hnh.out hnf.out ht0 ht2 hnf2 hnh2 w' a b c d e f
  have hbd : ∀ r, rr = some r → r.d ≤ 8 * fl.length ∧ r.x.length = 32 := fun r hr => by
   rw [hrr] at hr
   have := pRd_bounds tot fl hs h32 _ _ _ _ _ hr
   exact ⟨this.2.1, this.2.2.2.2.2.1⟩
  rw [← hrr] at HR hans2
  replace HR := Lib.hid HR
  replace hrr := Lib.hid hrr
  replace hm := Lib.hid hm
  replace hbd := Lib.hid hbd
  clear hans
  go_upto_region 3 with (first
   | ((with_reducible refine wpList_loadF 53 aT ?_ _ 3 ?_ Tryd.underlying53 ?_ ?_ ?_); rfl; rfl; rfl; kernel_rfl)
   | (go_at_call 37; refine (HM.out W).mono ?_; rintro e w1 ⟨rfl, b1⟩))
  have aG1 := aG.below b1
  have aT1 := aT.below b1
  have bw1 := bW.trans (b1.mono bW.size)
  have sw1 : w.heap.size + 2 ≤ w1.heap.size := by rw [← sW.out]; exact b1.size
  replace hans2 := Lib.hid hans2
  clear aG aT b1 bW HM
  go_upto_region 4 with (first
   | ((with_reducible refine wpList_loadF 53 aT1 ?_ _ 3 ?_ Tryd.underlying53 ?_ ?_ ?_); rfl; rfl; rfl; kernel_rfl)
   | ((with_reducible refine wpList_bld (.agg (rdc tot Ah nh ch Af nf cf 0 0).toArray) ?_ ?_); kernel_rfl))
  obtain ⟨W2, hW2⟩ : ∃ W2, W2 = w1.alloc (.cells (rdc tot Ah nh ch Af nf cf 0 0).toArray 115) := ⟨_, rfl⟩
  obtain ⟨R, hR⟩ : ∃ R, R = w1.heap.size := ⟨_, rfl⟩
  have aR : Av W2 R 115 (rdc tot Ah nh ch Af nf cf 0 0) := by rw [hW2, hR]; exact Av.new _ _ _
  have b2 : Below w1.heap.size w1 W2 := by rw [hW2]; exact (Below.refl _ _).alloc (Nat.le_refl _) _
  have bw2 := bw1.trans (b2.mono bw1.size)
  have aG2 := aG1.below b2
  have rh2 := hrh.below bw2
  have rf2 := hrf.below bw2
  have hRw : w.heap.size ≤ R := by rw [hR]; omega
  have hRG : R ≠ G := by have := aG1.lt; omega
  have frT : ∀ w', Fr (fun j => j = R) W2 w' → Below w.heap.size w w' := fun w' f => bw2.trans (f.below (fun k hk => by rw [hk]; exact hRw) bw2.size)
  have nAh : hcl hs ≠ [] → ∀ a, Ah = some a → a.block ≠ R := fun hne a ha => by have := hrh.lt hne a ha; omega
  have nAf : fl.map bv ≠ [] → ∀ a, Af = some a → a.block ≠ R := fun hne a ha => by have := hrf.lt hne a ha; omega
  have HR2 := HR.out R W2 aR rh2 rf2 nAh nAf (fun w' f => hT.below (frT w' f))
  rw [← hW2, ← hR]
  replace HR2 := Lib.hid HR2
  replace hW2 := Lib.hid hW2
  replace hR := Lib.hid hR
  replace nAh := Lib.hid nAh
  replace nAf := Lib.hid nAf
  clear HR aG1 aT1 b2 bw1
  cases rr with
  | none =>
   have hb : ans = none := hans2.out
   subst hb
   go_upto_region 6 with (first
    | (go_at_call 38; refine (HR2.out).mono ?_; rintro e w3 ⟨f3, rfl, _⟩)
    | ((with_reducible refine wpList_storeF 30 ((Below.refl w3.heap.size w3).alloc (Nat.le_refl _) _) (heap_alloc_new _ _) (Nat.le_refl _) (zs32.map bv) ?_ ?_ 32 rfl ?_ ?_ ?_ ?_); rfl; rfl; kernel_rfl; rfl; exact hzone.out; intro w4 aH4 b4 k4 z4))
   have aG3 := (f3.av aG2 (Ne.symm hRG)).below b4
   have bw4 := (frT _ f3).trans (b4.mono (frT _ f3).size)
   clear aH4 b4 k4 z4 aG2
   go_wp2_with (first
    | ((with_reducible refine wpList_storeFA 30 (Below.refl w.heap.size w4) aG3 hGw (zs32.map bv) ?_ ?_ 32 rfl ?_ ?_ ?_ ?_); rfl; rfl; kernel_rfl; rfl; exact hzone.out; intro w9 a9 b9 k9 z9))
   refine bodyPost_ret (v := .tuple #[.agg (hcs zs32), .slice none 0 0, .int .i64 13]) ((results_cellAv2 (C := zs32.map bv) (by rfl) (by rfl) a9 _ Tryd.underlying30 rfl 32 rfl (by kernel_rfl)).trans (by rfl)) (by rfl) ?_
   exact ⟨bw4.trans b9, rfl⟩
  | some r =>
   obtain ⟨rx, rl, rd, rk⟩ := r
   obtain ⟨hd8, hx0⟩ := hbd.out _ rfl
   dsimp only at hd8 hx0
   have hx32 : (rx.map bv).length = 32 := by rw [List.length_map, hx0]
   have hxone : (rx.map bv).all (·.oneCell') = true := List.all_eq_true.2 (bv_one rx)
   obtain ⟨q, hq⟩ : ∃ q, q = pDone hs fl rd rk := ⟨_, rfl⟩
   have hans3 : ans = if q then some ⟨rx, rl, rd, rk⟩ else none := by
    rw [hans2.out, hq, Option.filter_some]
   have rdb : rd ≤ 80000 := by have := hnf.out; omega
   replace hx32 := Lib.hid hx32
   replace hxone := Lib.hid hxone
   replace hans3 := Lib.hid hans3
   replace hx0 := Lib.hid hx0
   replace hq := Lib.hid hq
   replace hd8 := Lib.hid hd8
   replace hbd := Lib.hid hbd
   clear hans2
   go_upto_region 5 with (first
    | (go_at_call 38; refine (HR2.out).mono ?_; rintro e w3 ⟨f3, A, c, rfl, hlc, hA3, rl3, aR3⟩; dsimp only at hlc rl3 aR3; dsimp only)
    | ((with_reducible refine wpList_storeF 30 ((Below.refl w3.heap.size w3).alloc (Nat.le_refl _) _) (heap_alloc_new _ _) (Nat.le_refl _) (rx.map bv) ?_ ?_ 32 hx32.out ?_ ?_ ?_ ?_); rfl; rfl; kernel_rfl; rfl; exact hxone.out; intro w4 aH4 b4 k4 z4))
   have aG4 := (f3.av aG2 (Ne.symm hRG)).below b4
   have hAw : ∀ a, A = some a → w.heap.size ≤ a.block := fun a e => Nat.le_trans bw2.size (hA3 a e)
   have hAG : ∀ a, A = some a → a.block ≠ G := fun a e => by have := hA3 a e; have := aG2.lt; omega
   replace hAw := Lib.hid hAw
   replace hAG := Lib.hid hAG
   have bw3 := frT _ f3
   have bw4 := bw3.trans (b4.mono bw3.size)
   have aR4 := aR3.below b4
   have rl4 := rl3.below b4
   have rf4 := hrf.below bw4
   have HD := PDone hs fl tot Ah nh ch Af nf cf rd rk R hnh.out hnf.out (by omega) w4 rf4 aR4
   rw [← hq.out] at HD
   obtain ⟨Hh, hHh⟩ : ∃ Hh, Hh = w3.heap.size := ⟨_, rfl⟩
   rw [← hHh] at aH4 ⊢
   replace hHh := Lib.hid hHh
   replace HD := Lib.hid HD
   replace nAh := Lib.hid nAh
   clear b4 k4 z4 aG2 aR3 rl3 f3 bw3 HR2
   cases q with
   | false =>
    have hb : ans = none := hans3.out
    subst hb
    go_upto_region 6 with (go_at_call 39; refine (HD.out).mono ?_; rintro e w5 ⟨rfl, b5⟩)
    have aG5 := aG4.below b5
    go_wp2_with (first
     | ((with_reducible refine wpList_storeFA 30 (Below.refl w.heap.size w5) aG5 hGw (zs32.map bv) ?_ ?_ 32 rfl ?_ ?_ ?_ ?_); rfl; rfl; kernel_rfl; rfl; exact hzone.out; intro w9 a9 b9 k9 z9))
    refine bodyPost_ret (v := .tuple #[.agg (hcs zs32), .slice none 0 0, .int .i64 13]) ((results_cellAv2 (C := zs32.map bv) (by rfl) (by rfl) a9 _ Tryd.underlying30 rfl 32 rfl (by kernel_rfl)).trans (by rfl)) (by rfl) ?_
    exact ⟨(bw4.trans (b5.mono bw4.size)).trans b9, rfl⟩
   | true =>
    have hb : ans = some ⟨rx, rl, rd, rk⟩ := hans3.out
    subst hb
    go_upto_region 7 with (go_at_call 39; refine (HD.out).mono ?_; rintro e w5 ⟨rfl, b5⟩)
    have aG5 := aG4.below b5
    have aH5 := aH4.below b5
    have rl5 := rl4.below b5
    go_wp2_with (first
     | ((with_reducible refine wpList_loadF 30 aH5 ?_ _ 32 hx32.out Tryd.underlying30 ?_ ?_ ?_); rfl; rfl; kernel_rfl)
     | ((with_reducible refine wpList_storeFA 30 (Below.refl w.heap.size w5) aG5 hGw (rx.map bv) ?_ ?_ 32 hx32.out ?_ ?_ ?_ ?_); rfl; rfl; kernel_rfl; rfl; exact hxone.out; intro w9 a9 b9 k9 z9))
    have f9 := Fr.ofStore b9 k9 z9
    refine bodyPost_ret (v := .tuple #[.agg (hcs rx), .slice A rl.length c, .int .i64 0]) ((results_cellAv2 (C := rx.map bv) (by rfl) (by rfl) a9 _ Tryd.underlying30 rfl 32 hx32.out (by kernel_rfl)).trans (by rfl)) (by rfl) ?_
    exact ⟨(bw4.trans (b5.mono bw4.size)).trans b9, A, c, rfl, hlc, hAw.out, f9.rd rl5 hAG.out⟩
end Go.Proofs.YtobjgebojhjhnaaDoor
namespace Go.Proofs.YtobjgebojhjhnaaDoor
open Go.RowKit
attribute [local go_sem high] slB_lh slB_l slB_h
def pHas (n : Nat) (ms : List Bool) (h i : Nat) : Bool := (List.range (2 ^ h)).any fun j => decide (i * 2 ^ h + j < n) && ms.getD (i * 2 ^ h + j) false
theorem pHas_true {n : Nat} {ms : List Bool} {h i k : Nat} (h1 : i * 2 ^ h ≤ k) (h2 : k < (i + 1) * 2 ^ h) (h3 : k < n) (h4 : ms.getD k false = true) : pHas n ms h i = true := by
 unfold pHas
 rw [Nat.add_mul, Nat.one_mul] at h2
 rw [List.any_eq_true]
 exact ⟨k - i * 2 ^ h, List.mem_range.2 (by omega), by rw [show i * 2 ^ h + (k - i * 2 ^ h) = k by omega, decide_eq_true h3, h4]; rfl⟩
theorem pHas_false {n : Nat} {ms : List Bool} {h i : Nat} (hf : ∀ k, i * 2 ^ h ≤ k → k < (i + 1) * 2 ^ h → k < n → k < ms.length → ms.getD k false = false) : pHas n ms h i = false := by
 unfold pHas
 rw [List.any_eq_false]
 intro j hj
 have := List.mem_range.1 hj
 by_cases h1 : i * 2 ^ h + j < n
 ·by_cases h2 : i * 2 ^ h + j < ms.length
  ·rw [hf _ (by omega) (by rw [Nat.add_mul, Nat.one_mul]; omega) h1 h2]; simp
  ·rw [List.getD_eq_getElem?_getD, List.getElem?_eq_none (by omega)]; simp
 ·rw [decide_eq_false h1]; simp
theorem pHas_iff (n : Nat) (ms : List Bool) (h i : Nat) : pHas n ms h i = true ↔ ∃ k, i * 2 ^ h ≤ k ∧ k < (i + 1) * 2 ^ h ∧ k < n ∧ ms.getD k false = true := by
 constructor
 ·intro hp
  apply Classical.byContradiction
  intro hc
  rw [pHas_false (fun k h1 h2 h3 _ => by
   cases e : ms.getD k false
   ·rfl
   ·exact absurd ⟨k, h1, h2, h3, e⟩ hc)] at hp
  cases hp
 ·rintro ⟨k, h1, h2, h3, h4⟩
  exact pHas_true h1 h2 h3 h4
set_option maxRecDepth 10000 in
set_option maxHeartbeats 2000000 in
theorem PMatches (ms : List Bool) (nm cm : Nat) (Am : Option Addr) (n h i : Nat) (hnm : ms.length = nm) (hnm2 : nm ≤ 1000000) (hn : n ≤ 4096) (h1 : h ≤ 12) (i1 : i ≤ 4096) (w : World) (hr : Rd w Am (ms.map Value.bool)) :
  Calls Tryd.prog 79 #[.agg (pnc (h : Int) (i : Int)).toArray, .int .i64 (n : Int), .slice Am nm cm] w fun e w' => e = .returned (.bool (pHas n ms h i)) ∧ Below w.heap.size w w' := by
 unfold pnc
 obtain ⟨W, hW⟩ : ∃ W, W = w.alloc (.cells [.int .i64 (h : Int), .int .i64 (i : Int)].toArray 151) := ⟨_, rfl⟩
 obtain ⟨H, hH⟩ : ∃ H, H = w.heap.size := ⟨_, rfl⟩
 have bW : Below w.heap.size w W := by rw [hW]; exact (Below.refl _ _).alloc (Nat.le_refl _) _
 have aN : Av W H 151 (pnc (h : Int) (i : Int)) := by rw [hW, hH]; exact Av.new _ _ _
 have c0 := aN.cell 0 _ rfl
 have c1 := aN.cell 1 _ rfl
 have r1 := hr.below bW
 have hp : 2 ^ h ≤ 2 ^ 12 := Nat.pow_le_pow_right (by omega) h1
 obtain ⟨P, hP⟩ : ∃ P, P = 2 ^ h := ⟨_, rfl⟩
 rw [← hP] at hp
 have hip : (i + 1) * P ≤ 4097 * 4096 := Nat.mul_le_mul (by omega) (by omega)
 have hip0 : (i + 1) * P = i * P + P := by rw [Nat.add_mul, Nat.one_mul]
 obtain ⟨a, ha⟩ : ∃ a, a = i * P := ⟨_, rfl⟩
 obtain ⟨b, hb⟩ : ∃ b, b = min ((i + 1) * P) (min n nm) := ⟨_, rfl⟩
 have pw : (2 : Int) ^ h = ((P : Nat) : Int) := by rw [hP]; simp
 have sh0 : IntKind.i64.wrap ((i : Int) * 2 ^ h) = (a : Int) := by
  rw [pw, ← Int.natCast_mul, ← ha, IntKind.wrap_i64]
  omega
 obtain ⟨E, hE⟩ : ∃ E, E = (i + 1) * P := ⟨_, rfl⟩
 have sh1 : IntKind.i64.wrap (((i : Int) + 1) * 2 ^ h) = (E : Int) := by
  rw [pw, show (i : Int) + 1 = ((i + 1 : Nat) : Int) by simp, ← Int.natCast_mul, hE, IntKind.wrap_i64]
  omega
 have mi : (if (nm : Int) < (if n < E then (n : Int) else (E : Int)) then (nm : Int) else if n < E then (n : Int) else (E : Int)) = (b : Int) := by rw [hb, ← hE]; split <;> split at * <;> omega
 clear pw
 replace hE := Lib.hid hE
 have h64 : (h : Int) < 64 := by omega
 replace hW := Lib.hid hW
 replace hH := Lib.hid hH
 replace hP := Lib.hid hP
 replace ha := Lib.hid ha
 replace hb := Lib.hid hb
 replace hip := Lib.hid hip
 replace hip0 := Lib.hid hip0
 replace hnm := Lib.hid hnm
 go_enter Tryd.func79, Tryd.ntmps79
 go_upto_region 1 with fail
 rw [← hW.out, ← hH.out]
 go_upto_region 2 with fail
 clear mi
 go_wp2
 go_loop [8] (fun v => ∃ k : Nat, a ≤ k ∧ k ≤ max a b ∧ v = .int .i64 (k : Int) ∧ Hid (∀ j, a ≤ j → j < k → ms.getD j false = false)) (fun v => b - (intOf v).toNat)
 case atStart => exact ⟨a, Nat.le_refl _, by omega, rfl, Lib.hid (fun j h1 h2 => absurd h1 (by omega))⟩
 case round =>
  obtain ⟨k, hak, hkb, rfl, hall⟩ := hrel
  have kb : k ≤ 20000000 := by have := hip.out; have := hb.out; have := ha.out; have := hip0.out; omega
  by_cases hlt : k < b
  ·have t1 : decide ((k : Int) < (b : Int)) = true := by simp; omega
   have hknm : k < nm := by have := hb.out; omega
   obtain ⟨v, hv⟩ : ∃ v, v = ms.getD k false := ⟨_, rfl⟩
   have hg : ms[k]? = some v := by rw [hv, List.getD_eq_getElem?_getD, List.getElem?_eq_getElem (by rw [hnm.out]; exact hknm)]; rfl
   obtain ⟨bb, off, rfl⟩ := r1.someA (by intro h; have := congrArg List.length h; rw [List.length_map, hnm.out] at this; simp at this; omega)
   have cx : W.cell? ⟨bb, off + k, none⟩ = some (.bool v) := by
    rcases r1 with h | ⟨b', o', hA', hc⟩
    ·have := congrArg List.length h; rw [List.length_map, hnm.out] at this; simp at this; omega
    ·cases hA'
     exact hc k _ (by rw [List.getElem?_map, hg]; rfl)
   replace hg := Lib.hid hg
   replace hv := Lib.hid hv
   cases v
   ·go_wp2
    go_round
    case rel =>
     refine ⟨k + 1, by omega, by omega, ?_, Lib.hid ?_⟩
     ·go_num
     ·intro j h1 h2
      by_cases hjk : j = k
      ·rw [hjk, ← hv.out]
      ·exact hall.out j h1 (by omega)
    case measure =>
     simp [intOf]
     omega
   ·go_wp2
    go_ret
    refine ⟨?_, bW⟩
    have h1 := hb.out
    have h2 := ha.out
    have h3 := hP.out
    rw [h2, h3] at hak
    rw [h3] at h1
    rw [pHas_true hak (by omega) (by omega) hv.out.symm]
    rfl
  ·have t1 : decide ((k : Int) < (b : Int)) = false := by simp; omega
   go_wp2
   go_ret
   refine ⟨?_, bW⟩
   have h1 := hb.out
   have h2 := ha.out
   have h3 := hP.out
   rw [h3] at h1 h2
   rw [pHas_false (fun j q1 q2 q3 q4 => hall.out j (by omega) (by rw [hnm.out] at q4; omega))]
   rfl
end Go.Proofs.YtobjgebojhjhnaaDoor
