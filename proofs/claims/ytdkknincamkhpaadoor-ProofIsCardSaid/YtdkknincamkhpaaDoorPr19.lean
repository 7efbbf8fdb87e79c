/- Mlq; Pd: put together for the claim. -/
import Derived.Test.YtdkknincamkhpaaDoorPr9
import Derived.Test.YtdkknincamkhpaaDoorPb
import Derived.Conc.MuLone
/- Plain laws of levels: each is made of the one ahead; how many hashes each has. -/
namespace Go.Proofs.YtdkknincamkhpaaDoor
open Go.RowKit
theorem lvq_head (f : Nat) (l : List (List UInt8)) : (mLvF f l)[0]? = some l := by
  cases f with
  | zero => rfl
  | succ f => rw [mLvF]; split <;> rfl
theorem lvq_next : ∀ (f : Nat) (l : List (List UInt8)) (h : Nat) (x y : List (List UInt8)), (mLvF f l)[h]? = some x → (mLvF f l)[h + 1]? = some y → y = mUp x ∧ 1 < x.length
  | 0, l, h, x, y, _, hy => by rw [mLvF] at hy; simp at hy
  | f + 1, l, h, x, y, hx, hy => by
    rw [mLvF] at hx hy
    split at hx
    · rename_i h1
      rw [if_pos h1] at hy
      simp at hy
    · rename_i h1
      rw [if_neg h1] at hy
      rw [List.getElem?_cons_succ] at hy
      cases h with
      | zero =>
        obtain rfl : l = x := by simpa using hx
        rw [lvq_head] at hy
        injection hy with hy
        exact ⟨hy.symm, by omega⟩
      | succ h =>
        rw [List.getElem?_cons_succ] at hx
        exact lvq_next f (mUp l) h x y hx hy
theorem lvq_len : ∀ (f : Nat) (l : List (List UInt8)) (h : Nat) (x : List (List UInt8)), (mLvF f l)[h]? = some x → x.length = (l.length + 2 ^ h - 1) / 2 ^ h
  | 0, l, h, x, hx => by
    rw [mLvF] at hx
    cases h with
    | zero => obtain rfl : l = x := by simpa using hx
              simp
    | succ h => simp at hx
  | f + 1, l, h, x, hx => by
    rw [mLvF] at hx
    cases h with
    | zero =>
      obtain rfl : l = x := by split at hx <;> simpa using hx
      simp
    | succ h =>
      split at hx
      · simp at hx
      · rw [List.getElem?_cons_succ] at hx
        rw [lvq_len f (mUp l) h x hx, mUp_length, ceil_step]
/-- the levels of n leaves: one for each height; each as wide as its height says, and made of the one ahead -/
theorem lvq_levels (l : List (List UInt8)) (n : Nat) (hn : l.length = n) (h0 : 0 < n) (h1 : n ≤ 4096) :
    (mLv l).length = pHt n + 1 ∧ (mLv l)[0]? = some l ∧ (∀ (h : Nat) (x : List (List UInt8)), (mLv l)[h]? = some x → x.length = pWd n h) ∧ (∀ (h : Nat) (x y : List (List UInt8)), (mLv l)[h]? = some x → (mLv l)[h + 1]? = some y → y = mUp x ∧ 1 < x.length) := by
  have hlv : mLv l = mLvF 12 l := by rw [mLv, if_neg (by omega)]
  obtain ⟨K, k1, k2, k3, k4⟩ := lvF_height 12 l (by omega) (by rw [hn]; exact h1)
  rw [hn] at k3 k4
  obtain ⟨q1, q2, q3⟩ := pHt_spec n h1
  have hK : K = pHt n := by
    rcases Nat.lt_trichotomy K (pHt n) with h | h | h
    · have := q2 K h
      unfold pWd at this
      omega
    · exact h
    · have := k3 _ h
      unfold pWd at q3
      omega
  refine ⟨by rw [hlv, k1, hK], by rw [hlv]; exact lvq_head _ _, fun h x hx => ?_, fun h x y hx hy => ?_⟩
  · rw [hlv] at hx
    rw [lvq_len 12 l h x hx, hn, pWd]
  · rw [hlv] at hx hy
    exact lvq_next 12 l h x y hx hy
theorem lvq_at (l : List (List UInt8)) (n : Nat) (hn : l.length = n) (h0 : 0 < n) (h1 : n ≤ 4096) (h i : Nat) (hh : h ≤ pHt n) (hi : i < pWd n h) : ∃ x y, (mLv l)[h]? = some x ∧ x[i]? = some y ∧ x.length = pWd n h := by
  obtain ⟨e1, _, e3, _⟩ := lvq_levels l n hn h0 h1
  have hx : (mLv l)[h]? = some ((mLv l)[h]'(by omega)) := List.getElem?_eq_getElem (by omega)
  have hl := e3 h _ hx
  exact ⟨_, _, hx, List.getElem?_eq_getElem (by rw [hl]; exact hi), hl⟩
end Go.Proofs.YtdkknincamkhpaaDoor
/- partial.Build. -/
namespace Go.Proofs.YtdkknincamkhpaaDoor
open Go.RowKit
attribute [local go_sem high] slB_lh slB_l slB_h
/-- the nodes that are gone to -/
def pAll (n : Nat) (ms : List Bool) : List PV := pVis n ms (pHt n) 0
def pBfl (n : Nat) (ms : List Bool) : List UInt8 := pFlags ((pAll n ms).map PV.d)
def pBhs (hs : List (List UInt8)) (ms : List Bool) : List (List UInt8) := pHs (mLv hs) (pAll hs.length ms)
theorem pVis_mem (n : Nat) (ms : List Bool) : ∀ (h i : Nat) (x : PV), x ∈ pVis n ms h i → x.h ≤ h
  | 0, i, x, hx => by rw [pVis, List.mem_singleton] at hx; rw [hx]; exact Nat.le_refl _
  | h + 1, i, x, hx => by
    rw [pVis, List.mem_cons] at hx
    rcases hx with rfl | hx
    · exact Nat.le_refl _
    · split at hx
      · rcases List.mem_append.1 hx with hx | hx
        · have := pVis_mem n ms h _ x hx; omega
        · split at hx
          · have := pVis_mem n ms h _ x hx; omega
          · cases hx
      · cases hx
theorem pHt_pos (n : Nat) (hn0 : 0 < n) : 0 < pWd n (pHt n) := by
  have hp : 0 < 2 ^ pHt n := Nat.pow_pos (by omega)
  unfold pWd
  exact Nat.div_pos (by omega) hp
/-- what Build answers -/
def BdPost (hs : List (List UInt8)) (ms : List Bool) (w0 : World) (e : Ending) (w' : World) : Prop :=
  Below w0.heap.size w0 w' ∧ if hs.length = 0 ∨ 4096 < hs.length then e = .returned (.tuple #[.agg (trc 0 none 0 0 none 0 0).toArray, .bool false]) else
    ∃ Ah ch Af cf, e = .returned (.tuple #[.agg (trc hs.length Ah (pBhs hs ms).length ch Af (pBfl hs.length ms).length cf).toArray, .bool true]) ∧ (pBhs hs ms).length ≤ ch ∧ (pBfl hs.length ms).length ≤ cf ∧ Rd w' Ah (hcl (pBhs hs ms)) ∧ Rd w' Af ((pBfl hs.length ms).map bv) ∧ (∀ a, Ah = some a → w0.heap.size ≤ a.block) ∧ (∀ a, Af = some a → w0.heap.size ≤ a.block)
set_option maxRecDepth 100000 in
set_option maxHeartbeats 8000000 in
theorem PBuild_no (A Am : Option Addr) (n c nm cm : Nat) (hn : n = 0 ∨ 4096 < n) (hnb : n ≤ 1000000) (w : World) :
    Calls Tryd.prog 28 #[.slice A n c, .slice Am nm cm] w fun e w' => e = .returned (.tuple #[.agg (trc 0 none 0 0 none 0 0).toArray, .bool false]) ∧ Below w.heap.size w w' := by
  obtain ⟨W, hW⟩ : ∃ W, W = w.alloc (.cells (trc 0 none 0 0 none 0 0).toArray 33) := ⟨_, rfl⟩
  obtain ⟨G, hG⟩ : ∃ G, G = w.heap.size := ⟨_, rfl⟩
  have bW : Below w.heap.size w W := by rw [hW]; exact (Below.refl _ _).alloc (Nat.le_refl _) _
  have aG : Av W G 33 (trc 0 none 0 0 none 0 0) := by rw [hW, hG]; exact Av.new _ _ _
  have hGw : w.heap.size ≤ G := by omega
  have hone : (trc 0 none 0 0 none 0 0).all (·.oneCell') = true := rfl
  replace hW := Lib.hid hW
  replace hG := Lib.hid hG
  replace hone := Lib.hid hone
  by_cases h0 : n = 0
  · subst h0
    go_enter Tryd.func28, Tryd.ntmps28
    go_upto_region 1 with fail
    rw [← hG.out]
    rw [show w.alloc (.cells #[Value.int .u32 0, .slice none 0 0, .slice none 0 0] 33) = W from hW.out.symm]
    go_wp2_with (first
      | ((with_reducible refine wpList_bld (.agg (trc 0 none 0 0 none 0 0).toArray) ?_ ?_); kernel_rfl)
      | ((with_reducible refine wpList_storeFA 33 bW aG hGw (trc 0 none 0 0 none 0 0) ?_ ?_ 3 rfl ?_ ?_ ?_ ?_); rfl; rfl; kernel_rfl; rfl; exact hone.out; intro w9 a9 b9 k9 z9))
    refine bodyPost_ret (v := .tuple #[.agg (trc 0 none 0 0 none 0 0).toArray, .bool false]) ((results_cellU (C := trc 0 none 0 0 none 0 0) (by rfl) (by rfl) a9 _ Tryd.underlying33 rfl 3 rfl (by kernel_rfl)).trans (by rfl)) (by rfl) ⟨rfl, b9⟩
  · have h4 : 4096 < n := by omega
    have t0 : ((n : Int) == 0) = false := by simp; omega
    have t1 : decide ((4096 : Int) < (n : Int)) = true := by simp; omega
    have t2 : decide (4096 < n) = true := by simp; omega
    replace h0 := Lib.hid h0
    replace hn := Lib.hid hn
    replace h4 := Lib.hid h4
    go_enter Tryd.func28, Tryd.ntmps28
    go_upto_region 1 with fail
    rw [← hG.out]
    rw [show w.alloc (.cells #[Value.int .u32 0, .slice none 0 0, .slice none 0 0] 33) = W from hW.out.symm]
    go_wp2_with (first
      | ((with_reducible refine wpList_bld (.agg (trc 0 none 0 0 none 0 0).toArray) ?_ ?_); kernel_rfl)
      | ((with_reducible refine wpList_storeFA 33 bW aG hGw (trc 0 none 0 0 none 0 0) ?_ ?_ 3 rfl ?_ ?_ ?_ ?_); rfl; rfl; kernel_rfl; rfl; exact hone.out; intro w9 a9 b9 k9 z9))
    refine bodyPost_ret (v := .tuple #[.agg (trc 0 none 0 0 none 0 0).toArray, .bool false]) ((results_cellU (C := trc 0 none 0 0 none 0 0) (by rfl) (by rfl) a9 _ Tryd.underlying33 rfl 3 rfl (by kernel_rfl)).trans (by rfl)) (by rfl) ⟨rfl, b9⟩
set_option maxRecDepth 100000 in
set_option maxHeartbeats 8000000 in
theorem PBuild_yes (hs : List (List UInt8)) (h32 : All32 hs) (ms : List Bool) (A Am : Option Addr) (n c nm cm : Nat) (hnl : hs.length = n) (hnm : ms.length = nm) (hn0 : 0 < n) (hn : n ≤ 4096) (hnm2 : nm ≤ 1000000) (w : World) (hr : Rd w A (hcl hs)) (hrm : Rd w Am (ms.map Value.bool)) (hT : Tabs w) :
    Calls Tryd.prog 28 #[.slice A n c, .slice Am nm cm] w fun e w' => Below w.heap.size w w' ∧ ∃ Ah ch Af cf, e = .returned (.tuple #[.agg (trc n Ah (pBhs hs ms).length ch Af (pBfl n ms).length cf).toArray, .bool true]) ∧ (pBhs hs ms).length ≤ ch ∧ (pBfl n ms).length ≤ cf ∧ Rd w' Ah (hcl (pBhs hs ms)) ∧ Rd w' Af ((pBfl n ms).map bv) ∧ (∀ a, Ah = some a → w.heap.size ≤ a.block) ∧ (∀ a, Af = some a → w.heap.size ≤ a.block) := by
  obtain ⟨W, hW⟩ : ∃ W, W = w.alloc (.cells (trc 0 none 0 0 none 0 0).toArray 33) := ⟨_, rfl⟩
  obtain ⟨G, hG⟩ : ∃ G, G = w.heap.size := ⟨_, rfl⟩
  have bW : Below w.heap.size w W := by rw [hW]; exact (Below.refl _ _).alloc (Nat.le_refl _) _
  have aG : Av W G 33 (trc 0 none 0 0 none 0 0) := by rw [hW, hG]; exact Av.new _ _ _
  have hGw : w.heap.size ≤ G := by omega
  have r1 := hr.below bW
  have HLv := Levels hs h32 A n c hnl W r1 (hT.below bW)
  obtain ⟨q1, q2, q3, q4⟩ := lvq_levels hs n hnl hn0 hn
  have hat := lvq_at hs n hnl hn0 hn
  have h32l : ∀ l ∈ mLv hs, All32 l := fun l hl => (mLv_mem hs h32 l hl).1
  have hbh : pBhs hs ms = pHs (mLv hs) (pAll n ms) := by rw [pBhs, hnl]
  have t0 : ((n : Int) == 0) = false := by simp; omega
  have t1 : decide ((4096 : Int) < (n : Int)) = false := by simp; omega
  have t2 : decide (4096 < n) = false := by simp; omega
  have wn : IntKind.u32.wrap (n : Int) = (n : Int) := by rw [IntKind.wrap_u32]; omega
  replace hW := Lib.hid hW
  replace hG := Lib.hid hG
  replace HLv := Lib.hid HLv
  replace hnl := Lib.hid hnl
  replace hnm := Lib.hid hnm
  replace q1 := Lib.hid q1
  replace q2 := Lib.hid q2
  replace q3 := Lib.hid q3
  replace q4 := Lib.hid q4
  replace hat := Lib.hid hat
  replace h32l := Lib.hid h32l
  replace hbh := Lib.hid hbh
  go_enter Tryd.func28, Tryd.ntmps28
  go_upto_region 1 with fail
  rw [← hG.out]
  rw [show w.alloc (.cells #[Value.int .u32 0, .slice none 0 0, .slice none 0 0] 33) = W from hW.out.symm]
  go_upto_region 4 with (go_at_call 45; refine (HLv.out).mono ?_; rintro e w2 ⟨v2, ps, rfl, o2, lv2, nv2, b2⟩; obtain ⟨Al, cl, rfl, hcl2, _⟩ := own_form o2)
  have bw2 := bW.trans (b2.mono bW.size)
  have b23 := (Below.refl w2.heap.size w2).alloc (Nat.le_refl _) (Obj.cells #[Value.slice Al (mLv hs).length cl] 87)
  obtain ⟨w3, hw3⟩ : ∃ w3, w3 = w2.alloc (Obj.cells #[Value.slice Al (mLv hs).length cl] 87) := ⟨_, rfl⟩
  obtain ⟨L, hL⟩ : ∃ L, L = w2.heap.size := ⟨_, rfl⟩
  have aL : Av w3 L 87 [.slice Al (mLv hs).length cl] := by rw [hw3, hL]; exact Av.new _ _ _
  rw [← hw3] at b23
  rw [← hw3, ← hL]
  have lv3 := lv2.below b23
  have rA3 := (own_rd o2).below b23
  have bw3 := bw2.trans (b23.mono bw2.size)
  have aG3 := (aG.below (b2.trans (b23.mono b2.size)))
  have hG3 : G < w3.heap.size := aG3.lt
  have rm3 := hrm.below bw3
  replace hw3 := Lib.hid hw3
  replace hL := Lib.hid hL
  clear o2 nv2 b2 b23 bw2 lv2 HLv aG r1
  go_upto_region 5 with (first
    | ((with_reducible refine wpList_bld (.agg (trc n none 0 0 none 0 0).toArray) ?_ ?_); kernel_rfl)
    | ((with_reducible refine wpList_storeF 33 ((Below.refl w3.heap.size w3).alloc (Nat.le_refl _) _) (heap_alloc_new _ _) (Nat.le_refl _) (trc n none 0 0 none 0 0) ?_ ?_ 3 rfl ?_ ?_ ?_ ?_); rfl; rfl; kernel_rfl; rfl; rfl; intro w4 aT b4 k4 z4; clear k4; replace z4 := Lib.hid z4))
  obtain ⟨T, hT0⟩ : ∃ T, T = w3.heap.size := ⟨_, rfl⟩
  rw [← hT0] at aT ⊢
  have b45 := (Below.refl w4.heap.size w4).alloc (Nat.le_refl _) (Obj.cells #[Value.int .i64 0] 3)
  obtain ⟨w5, hw5⟩ : ∃ w5, w5 = w4.alloc (Obj.cells #[Value.int .i64 0] 3) := ⟨_, rfl⟩
  obtain ⟨D, hD⟩ : ∃ D, D = w4.heap.size := ⟨_, rfl⟩
  have aD : Av w5 D 3 [.int .i64 0] := by rw [hw5, hD]; exact Av.new _ _ _
  rw [← hw5] at b45
  have aT5 := aT.below b45
  have b35 := b4.trans (b45.mono b4.size)
  have hTge : w3.heap.size ≤ T := by rw [hT0]; exact Nat.le_refl _
  have hDge : w3.heap.size ≤ D := by rw [hD]; exact b4.size
  have HW : Calls Tryd.prog 46 #[.int .i64 (n : Int), .slice Am nm cm, .func (.func 47) #[] #[.pointer (some ⟨D, 0, none⟩), .pointer (some ⟨T, 0, none⟩), .pointer (some ⟨L, 0, none⟩)]] w5 fun e w' => (∃ r, e = .returned r) ∧ BdI w3 (mLv hs) D T n (pVis n ms (pHt n) 0) w' := by
    refine PWalk ms nm cm Am n 47 #[.pointer (some ⟨D, 0, none⟩), .pointer (some ⟨T, 0, none⟩), .pointer (some ⟨L, 0, none⟩)] hnm.out hnm2 hn0 hn (BdI w3 (mLv hs) D T n) w5.heap.size (fun args w => MuLone.run_callFunc_enter Tryd.func47 (by kernel_rfl) rfl args w) ?_ ?_ ?_ w5 rfl ?_
    · rintro s w w' ⟨b, vh, vf, hd, ht, oh, of⟩ h
      exact ⟨h.below b b35.size b.size, vh, vf, h.av hd (by decide), h.av ht (by decide), h.own oh (by decide), h.own of (by decide)⟩
    · rintro s w ⟨b, _⟩
      exact rm3.below b
    · intro s x r w hI hall hxh hxi
      have hmem : x ∈ pVis n ms (pHt n) 0 := by rw [← hall]; simp
      have hlen := pVis_length n ms (pHt n) 0
      have hp : 2 ^ (pHt n + 1) ≤ 2 ^ 13 := Nat.pow_le_pow_right (by omega) (by have := (pHt_spec n hn).1; omega)
      have hsl := congrArg List.length hall
      rw [List.length_append] at hsl
      refine PBuild1 (mLv hs) ps w3 D T L Al (mLv hs).length cl n lv3 rA3 rfl aL h32l.out hDge hTge s (by omega) x (fun _ => ?_) w hI
      obtain ⟨l, y, h1, h2, _⟩ := hat.out x.h x.i (pVis_mem n ms _ _ x hmem) hxi
      exact ⟨l, y, h1, h2⟩
    · exact ⟨b35, _, _, aD, aT5, World.ownsRow_nil _ _ _ _, World.ownsRow_nil _ _ _ _⟩
  have aG5 := aG3.below b35
  replace HW := Lib.hid HW
  replace hw5 := Lib.hid hw5
  replace hD := Lib.hid hD
  replace hT0 := Lib.hid hT0
  replace hG3 := Lib.hid hG3
  clear aT b4 b45 aT5 aD rA3 lv3 aL aG3
  go_upto_region 6 with fail
  rw [← hw5.out, ← hD.out]
  go_upto_region 7 with (go_at_call 46; refine (HW.out).mono ?_; rintro e w6 ⟨⟨r, rfl⟩, b6, vh, vf, aD6, aT6, oh6, of6⟩; rw [← show pAll n ms = pVis n ms (pHt n) 0 from rfl] at oh6 of6; obtain ⟨Ah, ch, rfl, hch, _⟩ := own_form oh6; obtain ⟨Af, cf, rfl, hcf, _⟩ := own_form of6)
  have bw6 := bw3.trans (b6.mono bw3.size)
  have hG3' := hG3.out
  have aG6 : Av w6 G 33 (trc 0 none 0 0 none 0 0) := by
    have h := aG5
    have e1 := b6.block G (by omega)
    have e2 := b35.block G (by omega)
    unfold Av at h ⊢
    rw [e1, ← e2]
    exact h
  have hTG : T ≠ G := by have := hT0.out; omega
  go_wp2_with (first
    | ((with_reducible refine wpList_loadF 33 aT6 ?_ _ 3 ?_ Tryd.underlying33 ?_ ?_ ?_); rfl; rfl; rfl; kernel_rfl)
    | ((with_reducible refine wpList_storeFA 33 (Below.refl w.heap.size w6) aG6 hGw [.int .u32 (n : Int), .slice Ah (pHs (mLv hs) (pAll n ms)).length ch, .slice Af (pFlags (List.map PV.d (pAll n ms))).length cf] ?_ ?_ 3 rfl ?_ ?_ ?_ ?_); rfl; rfl; kernel_rfl; rfl; rfl; intro w9 a9 b9 k9 z9))
  have f9 := Fr.ofStore b9 k9 z9
  have gh : ∀ a, Ah = some a → w3.heap.size ≤ a.block := fun a e => (World.ownsRow.lt oh6 a.block (by rw [e]; rfl)).1
  have gf : ∀ a, Af = some a → w3.heap.size ≤ a.block := fun a e => (World.ownsRow.lt of6 a.block (by rw [e]; rfl)).1
  refine bodyPost_ret (v := .tuple #[.agg (trc n Ah (pHs (mLv hs) (pAll n ms)).length ch Af (pFlags (List.map PV.d (pAll n ms))).length cf).toArray, .bool true]) ((results_cellU (C := trc n Ah (pHs (mLv hs) (pAll n ms)).length ch Af (pFlags (List.map PV.d (pAll n ms))).length cf) (by rfl) (by rfl) a9 _ Tryd.underlying33 rfl 3 rfl (by kernel_rfl)).trans (by rfl)) (by rfl) ?_
  refine ⟨bw6.trans b9, Ah, ch, Af, cf, by rw [hbh.out]; rfl, by rw [hbh.out]; exact hch, hcf, ?_, ?_, fun a e => Nat.le_trans bw3.size (gh a e), fun a e => Nat.le_trans bw3.size (gf a e)⟩
  · rw [hbh.out]
    exact f9.rd (own_rd oh6) (fun a e h => by have := gh a e; omega)
  · exact f9.rd (own_rd of6) (fun a e h => by have := gf a e; omega)
theorem PBuild (hs : List (List UInt8)) (h32 : All32 hs) (ms : List Bool) (A Am : Option Addr) (n c nm cm : Nat) (hnl : hs.length = n) (hnm : ms.length = nm) (hnb : n ≤ 1000000) (hnm2 : nm ≤ 1000000) (w : World) (hr : Rd w A (hcl hs)) (hrm : Rd w Am (ms.map Value.bool)) (hT : Tabs w) :
    Calls Tryd.prog 28 #[.slice A n c, .slice Am nm cm] w (BdPost hs ms w) := by
  unfold BdPost
  rw [hnl]
  by_cases h : n = 0 ∨ 4096 < n
  · simp only [if_pos h]
    exact (PBuild_no A Am n c nm cm h hnb w).mono fun e w' q => ⟨q.2, q.1⟩
  · simp only [if_neg h]
    exact PBuild_yes hs h32 ms A Am n c nm cm hnl hnm (by omega) (by omega) hnm2 w hr hrm hT
end Go.Proofs.YtdkknincamkhpaaDoor
