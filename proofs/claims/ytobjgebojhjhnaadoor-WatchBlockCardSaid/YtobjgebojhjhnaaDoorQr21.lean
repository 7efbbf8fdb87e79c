import Derived.Test.YtobjgebojhjhnaaDoorQr17
import Derived.Test.YtobjgebojhjhnaaDoorPb
import Derived.Conc.MuLone
namespace Go.Proofs.YtobjgebojhjhnaaDoor
open Go.RowKit
theorem lvq_head (f : Nat) (l : List (List UInt8)) : (mLvF f l)[0]? = some l := by
 cases f with
 | zero => rfl
 | succ f => rw [mLvF]; split <;> rfl
theorem lvq_next : ∀ (f : Nat) (l : List (List UInt8)) (h : Nat) (x y : List (List UInt8)), (mLvF f l)[h]? = some x → (mLvF f l)[h + 1]? = some y → y = mUp x ∧ 1 < x.length
 | 0, l, h, x, y, _, hy => by rw [mLvF] at hy; simp at hy
 | f + 1, l, h, x, y, hx, hy => by
  rw [mLvF] at hx hy
  split at hx
  ·rename_i h1
   rw [if_pos h1] at hy
   simp at hy
  ·rename_i h1
   rw [if_neg h1] at hy
   rw [List.getElem?_cons_succ] at hy
   cases h with
   | zero =>
    obtain rfl : l = x := by simpa using hx
    rw [lvq_head] at hy
    injection hy with hy
    exact ⟨hy.symm, by omega⟩
   | succ h =>
    rw [List.getElem?_cons_succ] at hx
    exact lvq_next f (mUp l) h x y hx hy
theorem lvq_len : ∀ (f : Nat) (l : List (List UInt8)) (h : Nat) (x : List (List UInt8)), (mLvF f l)[h]? = some x → x.length = (l.length + 2 ^ h - 1) / 2 ^ h
  | 0, l, h, x, hx => by
    rw [mLvF] at hx
    cases h with
    | zero => obtain rfl : l = x := by simpa using hx
              simp
    | succ h => simp at hx
  | f + 1, l, h, x, hx => by
    rw [mLvF] at hx
    cases h with
    | zero =>
      obtain rfl : l = x := by split at hx <;> simpa using hx
      simp
    | succ h =>
      split at hx
      · simp at hx
      · rw [List.getElem?_cons_succ] at hx
        rw [lvq_len f (mUp l) h x hx, mUp_length, ceil_step]
theorem lvq_levels (l : List (List UInt8)) (n : Nat) (hn : l.length = n) (h0 : 0 < n) (h1 : n ≤ 4096) :
  (mLv l).length = pHt n + 1 ∧ (mLv l)[0]? = some l ∧ (∀ (h : Nat) (x : List (List UInt8)), (mLv l)[h]? = some x → x.length = pWd n h) ∧ (∀ (h : Nat) (x y : List (List UInt8)), (mLv l)[h]? = some x → (mLv l)[h + 1]? = some y → y = mUp x ∧ 1 < x.length) := by
 have hlv : mLv l = mLvF 12 l := by rw [mLv, if_neg (by omega)]
 obtain ⟨K, k1, k2, k3, k4⟩ := lvF_height 12 l (by omega) (by rw [hn]; exact h1)
 rw [hn] at k3 k4
 obtain ⟨q1, q2, q3⟩ := pHt_spec n h1
 have hK : K = pHt n := by
  rcases Nat.lt_trichotomy K (pHt n) with h | h | h
  ·have := q2 K h
   unfold pWd at this
   omega
  ·exact h
  ·have := k3 _ h
   unfold pWd at q3
   omega
 refine ⟨by rw [hlv, k1, hK], by rw [hlv]; exact lvq_head _ _, fun h x hx => ?_, fun h x y hx hy => ?_⟩
 ·rw [hlv] at hx
  rw [lvq_len 12 l h x hx, hn, pWd]
 ·rw [hlv] at hx hy
  exact lvq_next 12 l h x y hx hy
theorem lvq_at (l : List (List UInt8)) (n : Nat) (hn : l.length = n) (h0 : 0 < n) (h1 : n ≤ 4096) (h i : Nat) (hh : h ≤ pHt n) (hi : i < pWd n h) : ∃ x y, (mLv l)[h]? = some x ∧ x[i]? = some y ∧ x.length = pWd n h := by
 obtain ⟨e1, _, e3, _⟩ := lvq_levels l n hn h0 h1
 have hx : (mLv l)[h]? = some ((mLv l)[h]'(by omega)) := List.getElem?_eq_getElem (by omega)
 have hl := e3 h _ hx
 exact ⟨_, _, hx, List.getElem?_eq_getElem (by rw [hl]; exact hi), hl⟩
end Go.Proofs.YtobjgebojhjhnaaDoor
namespace Go.Proofs.YtobjgebojhjhnaaDoor
open Go.RowKit
attribute [local go_sem high] slB_lh slB_l slB_h
def pAll (n : Nat) (ms : List Bool) : List PV := pVis n ms (pHt n) 0
def pBfl (n : Nat) (ms : List Bool) : List UInt8 := pFlags ((pAll n ms).map PV.d)
def pBhs (hs : List (List UInt8)) (ms : List Bool) : List (List UInt8) := pHs (mLv hs) (pAll hs.length ms)
theorem pVis_mem (n : Nat) (ms : List Bool) : ∀ (h i : Nat) (x : PV), x ∈ pVis n ms h i → x.h ≤ h
 | 0, i, x, hx => by rw [pVis, List.mem_singleton] at hx; rw [hx]; exact Nat.le_refl _
 | h + 1, i, x, hx => by
  rw [pVis, List.mem_cons] at hx
  rcases hx with rfl | hx
  ·exact Nat.le_refl _
  ·split at hx
   ·rcases List.mem_append.1 hx with hx | hx
    ·have := pVis_mem n ms h _ x hx; omega
    ·split at hx
     ·have := pVis_mem n ms h _ x hx; omega
     ·cases hx
   ·cases hx
theorem pHs_32 {ls : List (List (List UInt8))} (h32 : ∀ l ∈ ls, All32 l) {s : List PV} (h : ∀ x ∈ s, x.told = true → ∃ l y, ls[x.h]? = some l ∧ l[x.i]? = some y) : All32 (pHs ls s) := by
 intro y hy
 unfold pHs at hy
 obtain ⟨x, hx, rfl⟩ := List.mem_map.1 hy
 obtain ⟨h1, h2⟩ := List.mem_filter.1 hx
 obtain ⟨l, z, hl, hz⟩ := h x h1 h2
 rw [List.getD_eq_getElem?_getD, List.getD_eq_getElem?_getD, hl]
 show (l[x.i]?.getD []).length = 32
 rw [hz]
 exact h32 l (List.mem_of_getElem? hl) z (List.mem_of_getElem? hz)
theorem pVis_ok {n : Nat} (hn0 : 0 < n) (ms : List Bool) : ∀ (h i : Nat), i < pWd n h → ∀ x ∈ pVis n ms h i, x.i < pWd n x.h
 | 0, i, hi, x, hx => by rw [pVis, List.mem_singleton] at hx; rw [hx]; exact hi
 | h + 1, i, hi, x, hx => by
  rw [pVis, List.mem_cons] at hx
  rcases hx with rfl | hx
  ·exact hi
  ·rw [pWd_succ] at hi
   split at hx
   ·rcases List.mem_append.1 hx with hx | hx
    ·exact pVis_ok hn0 ms h _ (by omega) x hx
    ·split at hx
     ·rename_i hw
      exact pVis_ok hn0 ms h _ hw x hx
     ·cases hx
   ·cases hx
theorem pHt_pos (n : Nat) (hn0 : 0 < n) : 0 < pWd n (pHt n) := by
 have hp : 0 < 2 ^ pHt n := Nat.pow_pos (by omega)
 unfold pWd
 exact Nat.div_pos (by omega) hp
def BdPost (hs : List (List UInt8)) (ms : List Bool) (w0 : World) (e : Ending) (w' : World) : Prop :=
 Below w0.heap.size w0 w' ∧ if hs.length = 0 ∨ 4096 < hs.length then e = .returned (.tuple #[.agg (trc 0 none 0 0 none 0 0).toArray, .bool false]) else
  ∃ Ah ch Af cf, e = .returned (.tuple #[.agg (trc hs.length Ah (pBhs hs ms).length ch Af (pBfl hs.length ms).length cf).toArray, .bool true]) ∧ (pBhs hs ms).length ≤ ch ∧ (pBfl hs.length ms).length ≤ cf ∧ Rd w' Ah (hcl (pBhs hs ms)) ∧ Rd w' Af ((pBfl hs.length ms).map bv) ∧ (∀ a, Ah = some a → w0.heap.size ≤ a.block) ∧ (∀ a, Af = some a → w0.heap.size ≤ a.block)
set_option maxRecDepth 100000 in
set_option maxHeartbeats 8000000 in
theorem PBuild_yes (hs : List (List UInt8)) (h32 : All32 hs) (ms : List Bool) (A Am : Option Addr) (n c nm cm : Nat) (hnl : hs.length = n) (hnm : ms.length = nm) (hn0 : 0 < n) (hn : n ≤ 4096) (hnm2 : nm ≤ 1000000) (w : World) (hr : Rd w A (hcl hs)) (hrm : Rd w Am (ms.map Value.bool)) (hT : Tabs w) :
  Calls Tryd.prog 31 #[.slice A n c, .slice Am nm cm] w fun e w' => Below w.heap.size w w' ∧ ∃ Ah ch Af cf, e = .returned (.tuple #[.agg (trc n Ah (pBhs hs ms).length ch Af (pBfl n ms).length cf).toArray, .bool true]) ∧ (pBhs hs ms).length ≤ ch ∧ (pBfl n ms).length ≤ cf ∧ Rd w' Ah (hcl (pBhs hs ms)) ∧ Rd w' Af ((pBfl n ms).map bv) ∧ (∀ a, Ah = some a → w.heap.size ≤ a.block) ∧ (∀ a, Af = some a → w.heap.size ≤ a.block) := by
 obtain ⟨W, hW⟩ : ∃ W, W = w.alloc (.cells (trc 0 none 0 0 none 0 0).toArray 53) := ⟨_, rfl⟩
 obtain ⟨G, hG⟩ : ∃ G, G = w.heap.size := ⟨_, rfl⟩
 have bW : Below w.heap.size w W := by rw [hW]; exact (Below.refl _ _).alloc (Nat.le_refl _) _
 have aG : Av W G 53 (trc 0 none 0 0 none 0 0) := by rw [hW, hG]; exact Av.new _ _ _
 have hGw : w.heap.size ≤ G := by omega
 have r1 := hr.below bW
 have HLv := Levels hs h32 A n c hnl W r1 (hT.below bW)
 obtain ⟨q1, q2, q3, q4⟩ := lvq_levels hs n hnl hn0 hn
 have hat := lvq_at hs n hnl hn0 hn
 have h32l : ∀ l ∈ mLv hs, All32 l := fun l hl => (mLv_mem hs h32 l hl).1
 have hbh : pBhs hs ms = pHs (mLv hs) (pAll n ms) := by rw [pBhs, hnl]
 have t0 : ((n : Int) == 0) = false := by simp; omega
 have t1 : decide ((4096 : Int) < (n : Int)) = false := by simp; omega
 have t2 : decide (4096 < n) = false := by simp; omega
 have wn : IntKind.u32.wrap (n : Int) = (n : Int) := by rw [IntKind.wrap_u32]; omega
 replace hW := Lib.hid hW
 replace hG := Lib.hid hG
 replace HLv := Lib.hid HLv
 replace hnl := Lib.hid hnl
 replace hnm := Lib.hid hnm
 replace q1 := Lib.hid q1
 replace q2 := Lib.hid q2
 replace q3 := Lib.hid q3
 replace q4 := Lib.hid q4
 replace hat := Lib.hid hat
 replace h32l := Lib.hid h32l
 replace hbh := Lib.hid hbh
 go_enter Tryd.func31, Tryd.ntmps31
 go_upto_region 1 with fail
 rw [← hG.out]
 rw [show w.alloc (.cells #[Value.int .u32 0, .slice none 0 0, .slice none 0 0] 53) = W from hW.out.symm]
 go_upto_region 4 with (go_at_call 54; refine (HLv.out).mono ?_; rintro e w2 ⟨v2, ps, rfl, o2, lv2, nv2, b2⟩; obtain ⟨Al, cl, rfl, hcl2, _⟩ := own_form o2)
 have bw2 := bW.trans (b2.mono bW.size)
 have b23 := (Below.refl w2.heap.size w2).alloc (Nat.le_refl _) (Obj.cells #[Value.slice Al (mLv hs).length cl] 147)
 obtain ⟨w3, hw3⟩ : ∃ w3, w3 = w2.alloc (Obj.cells #[Value.slice Al (mLv hs).length cl] 147) := ⟨_, rfl⟩
 obtain ⟨L, hL⟩ : ∃ L, L = w2.heap.size := ⟨_, rfl⟩
 have aL : Av w3 L 147 [.slice Al (mLv hs).length cl] := by rw [hw3, hL]; exact Av.new _ _ _
 rw [← hw3] at b23
 rw [← hw3, ← hL]
 have lv3 := lv2.below b23
 have rA3 := (own_rd o2).below b23
 have bw3 := bw2.trans (b23.mono bw2.size)
 have aG3 := (aG.below (b2.trans (b23.mono b2.size)))
 have hG3 : G < w3.heap.size := aG3.lt
 have rm3 := hrm.below bw3
 replace hw3 := Lib.hid hw3
 replace hL := Lib.hid hL
 clear o2 nv2 b2 b23 bw2 lv2 HLv aG r1
 go_upto_region 5 with (first
  | ((with_reducible refine wpList_bld (.agg (trc n none 0 0 none 0 0).toArray) ?_ ?_); kernel_rfl)
  | ((with_reducible refine wpList_storeF 53 ((Below.refl w3.heap.size w3).alloc (Nat.le_refl _) _) (heap_alloc_new _ _) (Nat.le_refl _) (trc n none 0 0 none 0 0) ?_ ?_ 3 rfl ?_ ?_ ?_ ?_); rfl; rfl; kernel_rfl; rfl; rfl; intro w4 aT b4 k4 z4; clear k4; replace z4 := Lib.hid z4))
 obtain ⟨T, hT0⟩ : ∃ T, T = w3.heap.size := ⟨_, rfl⟩
 rw [← hT0] at aT ⊢
 have b45 := (Below.refl w4.heap.size w4).alloc (Nat.le_refl _) (Obj.cells #[Value.int .i64 0] 3)
 obtain ⟨w5, hw5⟩ : ∃ w5, w5 = w4.alloc (Obj.cells #[Value.int .i64 0] 3) := ⟨_, rfl⟩
 obtain ⟨D, hD⟩ : ∃ D, D = w4.heap.size := ⟨_, rfl⟩
 have aD : Av w5 D 3 [.int .i64 0] := by rw [hw5, hD]; exact Av.new _ _ _
 rw [← hw5] at b45
 have aT5 := aT.below b45
 have b35 := b4.trans (b45.mono b4.size)
 have hTge : w3.heap.size ≤ T := by rw [hT0]; exact Nat.le_refl _
 have hDge : w3.heap.size ≤ D := by rw [hD]; exact b4.size
 have HW : Calls Tryd.prog 55 #[.int .i64 (n : Int), .slice Am nm cm, .func (.func 56) #[] #[.pointer (some ⟨D, 0, none⟩), .pointer (some ⟨T, 0, none⟩), .pointer (some ⟨L, 0, none⟩)]] w5 fun e w' => (∃ r, e = .returned r) ∧ BdI w3 (mLv hs) D T n (pVis n ms (pHt n) 0) w' := by
  refine PWalk ms nm cm Am n 56 #[.pointer (some ⟨D, 0, none⟩), .pointer (some ⟨T, 0, none⟩), .pointer (some ⟨L, 0, none⟩)] hnm.out hnm2 hn0 hn (BdI w3 (mLv hs) D T n) w5.heap.size (fun args w => MuLone.run_callFunc_enter Tryd.func56 (by kernel_rfl) rfl args w) ?_ ?_ ?_ w5 rfl ?_
  ·rintro s w w' ⟨b, vh, vf, hd, ht, oh, of⟩ h
   exact ⟨h.below b b35.size b.size, vh, vf, h.av hd (by decide), h.av ht (by decide), h.own oh (by decide), h.own of (by decide)⟩
  ·rintro s w ⟨b, _⟩
   exact rm3.below b
  ·intro s x r w hI hall hxh hxi
   have hmem : x ∈ pVis n ms (pHt n) 0 := by rw [← hall]; simp
   have hlen := pVis_length n ms (pHt n) 0
   have hp : 2 ^ (pHt n + 1) ≤ 2 ^ 13 := Nat.pow_le_pow_right (by omega) (by have := (pHt_spec n hn).1; omega)
   have hsl := congrArg List.length hall
   rw [List.length_append] at hsl
   refine PBuild1 (mLv hs) ps w3 D T L Al (mLv hs).length cl n lv3 rA3 rfl aL h32l.out hDge hTge s (by omega) x (fun _ => ?_) w hI
   obtain ⟨l, y, h1, h2, _⟩ := hat.out x.h x.i (pVis_mem n ms _ _ x hmem) hxi
   exact ⟨l, y, h1, h2⟩
  ·exact ⟨b35, _, _, aD, aT5, World.ownsRow_nil _ _ _ _, World.ownsRow_nil _ _ _ _⟩
 have aG5 := aG3.below b35
 replace HW := Lib.hid HW
 replace hw5 := Lib.hid hw5
 replace hD := Lib.hid hD
 replace hT0 := Lib.hid hT0
 replace hG3 := Lib.hid hG3
 clear aT b4 b45 aT5 aD rA3 lv3 aL aG3
 go_upto_region 6 with fail
 rw [← hw5.out, ← hD.out]
 go_upto_region 7 with (go_at_call 55; refine (HW.out).mono ?_; rintro e w6 ⟨⟨r, rfl⟩, b6, vh, vf, aD6, aT6, oh6, of6⟩; rw [← show pAll n ms = pVis n ms (pHt n) 0 from rfl] at oh6 of6; obtain ⟨Ah, ch, rfl, hch, _⟩ := own_form oh6; obtain ⟨Af, cf, rfl, hcf, _⟩ := own_form of6)
 have bw6 := bw3.trans (b6.mono bw3.size)
 have hG3' := hG3.out
 have aG6 : Av w6 G 53 (trc 0 none 0 0 none 0 0) := by
  have h := aG5
  have e1 := b6.block G (by omega)
  have e2 := b35.block G (by omega)
  unfold Av at h ⊢
  rw [e1, ← e2]
  exact h
 have hTG : T ≠ G := by have := hT0.out; omega
 go_wp2_with (first
  | ((with_reducible refine wpList_loadF 53 aT6 ?_ _ 3 ?_ Tryd.underlying53 ?_ ?_ ?_); rfl; rfl; rfl; kernel_rfl)
  | ((with_reducible refine wpList_storeFA 53 (Below.refl w.heap.size w6) aG6 hGw [.int .u32 (n : Int), .slice Ah (pHs (mLv hs) (pAll n ms)).length ch, .slice Af (pFlags (List.map PV.d (pAll n ms))).length cf] ?_ ?_ 3 rfl ?_ ?_ ?_ ?_); rfl; rfl; kernel_rfl; rfl; rfl; intro w9 a9 b9 k9 z9))
 have f9 := Fr.ofStore b9 k9 z9
 have gh : ∀ a, Ah = some a → w3.heap.size ≤ a.block := fun a e => (World.ownsRow.lt oh6 a.block (by rw [e]; rfl)).1
 have gf : ∀ a, Af = some a → w3.heap.size ≤ a.block := fun a e => (World.ownsRow.lt of6 a.block (by rw [e]; rfl)).1
 refine bodyPost_ret (v := .tuple #[.agg (trc n Ah (pHs (mLv hs) (pAll n ms)).length ch Af (pFlags (List.map PV.d (pAll n ms))).length cf).toArray, .bool true]) ((results_cellU (C := trc n Ah (pHs (mLv hs) (pAll n ms)).length ch Af (pFlags (List.map PV.d (pAll n ms))).length cf) (by rfl) (by rfl) a9 _ Tryd.underlying53 rfl 3 rfl (by kernel_rfl)).trans (by rfl)) (by rfl) ?_
 refine ⟨bw6.trans b9, Ah, ch, Af, cf, by rw [hbh.out]; rfl, by rw [hbh.out]; exact hch, hcf, ?_, ?_, fun a e => Nat.le_trans bw3.size (gh a e), fun a e => Nat.le_trans bw3.size (gf a e)⟩
 ·rw [hbh.out]
  exact f9.rd (own_rd oh6) (fun a e h => by have := gh a e; omega)
 ·exact f9.rd (own_rd of6) (fun a e h => by have := gf a e; omega)
end Go.Proofs.YtobjgebojhjhnaaDoor
namespace Go.Proofs.YtobjgebojhjhnaaDoor
open Go.RowKit
theorem bit_or (x s t : Nat) : ((x ||| 2 ^ s) / 2 ^ t % 2 == 1) = (decide (s = t) || x / 2 ^ t % 2 == 1) := by
 have h : ∀ y : Nat, (y / 2 ^ t % 2 == 1) = y.testBit t := fun y => by rw [Nat.testBit_eq_decide_div_mod_eq]; rfl
 rw [h, h, Nat.testBit_or, Nat.testBit_two_pow, Bool.or_comm]
theorem pDig_push (fl : List UInt8) (j : Nat) (hj : j < 8 * (fl ++ [(0 : UInt8)]).length) (f : Nat → Bool) (h : ∀ i, i < 8 * fl.length → pDig fl i = some (f i)) (h0 : ∀ i, 8 * fl.length ≤ i → f i = false) : pDig (fl ++ [0]) j = some (f j) := by
 rw [List.length_append, List.length_singleton] at hj
 by_cases hl : j < 8 * fl.length
 ·rw [← h j hl]
  unfold pDig
  rw [List.getElem?_append_left (by omega)]
 ·rw [h0 j (by omega)]
  unfold pDig
  rw [List.getElem?_append_right (by omega), show j / 8 - fl.length = 0 by omega]
  simp
theorem pDig_set (fl : List UInt8) (k j : Nat) (hk : k < 8 * fl.length) (hj : j < 8 * fl.length) : pDig (fl.set (k / 8) (orBit (fl.getD (k / 8) 0) (k % 8))) j = some (decide (k = j) || (pDig fl j).getD false) := by
 have hkl : k / 8 < fl.length := by omega
 have hjl : j / 8 < fl.length := by omega
 rw [pDig_get hj, Option.getD_some]
 unfold pDig
 by_cases e : k / 8 = j / 8
 ·rw [e, List.getElem?_set_self hjl, Option.map_some, orBit_nat _ _ (by omega), bit_or]
  congr 2
  exact decide_eq_decide.2 (by omega)
 ·rw [List.getElem?_set_ne e, List.getElem?_eq_getElem hjl, List.getD_eq_getElem?_getD, List.getElem?_eq_getElem hjl]
  rw [decide_eq_false (by omega)]
  simp
theorem pFlags_digits (ds : List Bool) : ∀ j, j < 8 * (pFlags ds).length → pDig (pFlags ds) j = some (ds.getD j false) := by
 have key : ∀ es : List Bool, ∀ j, j < 8 * (pFlags es.reverse).length → pDig (pFlags es.reverse) j = some (es.reverse.getD j false) := by
  intro es
  induction es with
  | nil => intro j hj; simp [pFlags, pFlA] at hj
  | cons d es ih =>
   rw [List.reverse_cons]
   have hl := pFlags_length es.reverse
   have hg : ∀ j, (es.reverse ++ [d]).getD j false = if j = es.reverse.length then d else es.reverse.getD j false := fun j => by
    rw [List.getD_eq_getElem?_getD, List.getD_eq_getElem?_getD]
    rcases Nat.lt_trichotomy j es.reverse.length with h | h | h
    ·rw [List.getElem?_append_left h, if_neg (by omega)]
    ·rw [List.getElem?_append_right (by omega), h, Nat.sub_self, if_pos rfl]; rfl
    ·rw [List.getElem?_append_right (by omega), if_neg (by omega), List.getElem?_eq_none (by rw [List.length_singleton]; omega), List.getElem?_eq_none (by omega)]
   have hP : ∀ j, j < 8 * (pFlP (pFlags es.reverse) es.reverse.length).length → pDig (pFlP (pFlags es.reverse) es.reverse.length) j = some (es.reverse.getD j false) := by
    intro j hj
    unfold pFlP at hj ⊢
    split at hj
    ·rename_i h8
     rw [if_pos h8]
     refine pDig_push _ j hj _ ih fun i hi => ?_
     rw [List.getD_eq_getElem?_getD, List.getElem?_eq_none (by omega)]
     rfl
    ·rename_i h8
     rw [if_neg h8]
     exact ih j hj
   have hPl := pFlP_length hl
   rw [pFlags_snoc]
   intro j hj
   rw [pFlS_length d hl] at hj
   rw [← hPl] at hj
   rw [hg]
   unfold pFlS
   cases d with
   | false =>
    rw [if_neg (by simp), hP j hj]
    split
    ·rename_i e
     rw [e, List.getD_eq_getElem?_getD, List.getElem?_eq_none (Nat.le_refl _)]
     rfl
    ·rfl
   | true =>
    rw [if_pos rfl, pDig_set _ _ _ (by rw [hPl]; omega) hj, hP j hj, Option.getD_some]
    split
    ·rename_i e; rw [decide_eq_true e.symm]; rfl
    ·rename_i e; rw [decide_eq_false (fun h => e h.symm)]; rfl
 have := key ds.reverse
 rwa [List.reverse_reverse] at this
def nH (ls : List (List (List UInt8))) (h i : Nat) : List UInt8 := (ls.getD h []).getD i []
def pMt (n : Nat) (ms : List Bool) (ls : List (List (List UInt8))) : Nat → Nat → List (Nat × List UInt8)
 | 0, i => if pHas n ms 0 i then [(i, nH ls 0 i)] else []
 | h + 1, i => if pHas n ms (h + 1) i then pMt n ms ls h (2 * i) ++ (if 2 * i + 1 < pWd n h then pMt n ms ls h (2 * i + 1) else []) else []
def pOk (n : Nat) (ms : List Bool) (ls : List (List (List UInt8))) : Nat → Nat → Bool
 | 0, _ => true
 | h + 1, i => !pHas n ms (h + 1) i || (pOk n ms ls h (2 * i) && (!decide (2 * i + 1 < pWd n h) || (pOk n ms ls h (2 * i + 1) && nH ls h (2 * i) != nH ls h (2 * i + 1))))
theorem pHs_cons (ls : List (List (List UInt8))) (x : PV) (s : List PV) : pHs ls (x :: s) = (if x.told then [nH ls x.h x.i] else []) ++ pHs ls s := by
 unfold pHs
 cases h : x.told <;> simp [h, nH]
theorem pHs_not (ls : List (List (List UInt8))) (h i : Nat) (s : List PV) : pHs ls (⟨h + 1, i, true⟩ :: s) = pHs ls s := by
 rw [pHs_cons]
 simp [PV.told]
theorem pHs_append (ls : List (List (List UInt8))) (s t : List PV) : pHs ls (s ++ t) = pHs ls s ++ pHs ls t := by simp [pHs]
def PLv (n : Nat) (ls : List (List (List UInt8))) (H : Nat) : Prop := ∀ h i, h + 1 ≤ H → i < pWd n (h + 1) → nH ls (h + 1) i = if 2 * i + 1 < pWd n h then pairB (nH ls h (2 * i)) (nH ls h (2 * i + 1)) else pairB (nH ls h (2 * i)) (nH ls h (2 * i))
theorem plv_of (l : List (List UInt8)) (n : Nat) (hn : l.length = n) (h0 : 0 < n) (h1 : n ≤ 4096) : PLv n (mLv l) (pHt n) := by
 intro h i hh hi
 obtain ⟨e1, _, e3, e4⟩ := lvq_levels l n hn h0 h1
 have hx : (mLv l)[h]? = some ((mLv l)[h]'(by omega)) := List.getElem?_eq_getElem (by omega)
 have hy : (mLv l)[h + 1]? = some ((mLv l)[h + 1]'(by omega)) := List.getElem?_eq_getElem (by omega)
 have hl := e3 h _ hx
 obtain ⟨e5, _⟩ := e4 h _ _ hx hy
 generalize (mLv l)[h]'(by omega) = x at hx hl e5
 generalize (mLv l)[h + 1]'(by omega) = y at hy e5
 subst e5
 have gx : (mLv l).getD h [] = x := by rw [List.getD_eq_getElem?_getD, hx]; rfl
 have gy : (mLv l).getD (h + 1) [] = mUp x := by rw [List.getD_eq_getElem?_getD, hy]; rfl
 unfold nH
 rw [gx, gy, List.getD_eq_getElem?_getD, mUp_get x i (by rw [hl]; rw [pWd_succ] at hi; omega), Option.getD_some, hl]
 split
 ·rw [show min (2 * i + 1) (pWd n h - 1) = 2 * i + 1 by omega]
 ·rw [show min (2 * i + 1) (pWd n h - 1) = 2 * i by rw [pWd_succ] at hi; omega]
theorem getElem?_app {α : Type} {f : Nat → Option α} {a b : List α} {k : Nat} (h : ∀ j y, (a ++ b)[j]? = some y → f (k + j) = some y) : (∀ j y, a[j]? = some y → f (k + j) = some y) ∧ ∀ j y, b[j]? = some y → f (k + a.length + j) = some y :=
 ⟨fun j y hy => h j y (by rw [List.getElem?_append_left (List.getElem?_eq_some_iff.1 hy).1]; exact hy), fun j y hy => by
  rw [Nat.add_assoc]
  exact h _ y (by rw [List.getElem?_append_right (by omega), Nat.add_sub_cancel_left]; exact hy)⟩
theorem pRd_vis {n : Nat} {ms : List Bool} {ls : List (List (List UInt8))} {H : Nat} (hP : PLv n ls H) (fl : List UInt8) (hs : List (List UInt8)) : ∀ (h i d k : Nat), h ≤ H → i < pWd n h → (∀ j x, ((pVis n ms h i).map PV.d)[j]? = some x → pDig fl (d + j) = some x) → (∀ j y, (pHs ls (pVis n ms h i))[j]? = some y → hs[k + j]? = some y) →
  pRd n fl hs h i d k = if pOk n ms ls h i then some ⟨nH ls h i, pMt n ms ls h i, d + (pVis n ms h i).length, k + (pHs ls (pVis n ms h i)).length⟩ else none := by
 intro h
 induction h with
 | zero =>
  intro i d k _ hi hd hk
  rw [pVis] at hd hk ⊢
  have e1 := hd 0 _ rfl
  have e2 : hs[k]? = some (nH ls 0 i) := hk 0 _ (by rw [pHs_cons]; simp [PV.told])
  rw [Nat.add_zero] at e1
  rw [pRd, e1, pOk, if_pos rfl, pMt, e2, pHs_cons]
  simp [PV.told, pHs]
 | succ h ih =>
  intro i d k hh hi hd hk
  rw [pVis] at hd hk ⊢
  have e1 := hd 0 _ rfl
  rw [Nat.add_zero] at e1
  rw [pRd, e1, Option.bind_some, pOk, pMt]
  cases hb : pHas n ms (h + 1) i with
  | false =>
   rw [hb] at hk
   have e2 : hs[k]? = some (nH ls (h + 1) i) := hk 0 _ (by rw [pHs_cons]; simp [PV.told])
   rw [if_neg (by simp), e2, pHs_cons]
   simp [PV.told, pHs]
  | true =>
   rw [hb] at hd hk
   rw [if_pos rfl] at hd hk
   rw [pHs_not] at hk ⊢
   have hd1 : ∀ j x, (((pVis n ms h (2 * i) ++ if 2 * i + 1 < pWd n h then pVis n ms h (2 * i + 1) else [])).map PV.d)[j]? = some x → pDig fl (d + 1 + j) = some x := fun j x hx => by
    have := hd (j + 1) x (by simpa using hx)
    rwa [show d + (j + 1) = d + 1 + j by omega] at this
   rw [List.map_append] at hd1
   simp only [↓reduceIte]
   rw [pHs_append] at hk ⊢
   obtain ⟨d1, d2⟩ := getElem?_app (f := pDig fl) hd1
   obtain ⟨k1, k2⟩ := getElem?_app (f := fun j => hs[j]?) hk
   rw [List.length_map] at d2
   have hi2 : 2 * i < pWd n h := by rw [pWd_succ] at hi; omega
   have hx := hP h i (by omega) hi
   rw [ih (2 * i) (d + 1) k (by omega) hi2 d1 k1]
   cases h1 : pOk n ms ls h (2 * i) with
   | false => simp
   | true =>
    rw [if_pos rfl, Option.bind_some]
    dsimp only
    split
    ·rename_i hw
     rw [if_pos hw] at d2 k2 hx
     rw [ih (2 * i + 1) _ _ (by omega) hw d2 k2, decide_eq_true hw]
     cases h2 : pOk n ms ls h (2 * i + 1) with
     | false => simp
     | true =>
      rw [if_pos rfl, Option.bind_some]
      dsimp only
      by_cases ha : nH ls h (2 * i) = nH ls h (2 * i + 1)
      ·rw [if_pos ha]
       simp [ha]
      ·rw [if_neg ha]
       simp only [Bool.not_true, Bool.false_or, Bool.true_and, bne_iff_ne, ne_eq, ha, not_false_eq_true, if_true]
       rw [hx]
       simp only [List.length_cons, List.length_append]
       congr 2 <;> omega
    ·rename_i hw
     rw [if_neg hw] at hx
     rw [decide_eq_false hw, hx]
     simp only [Bool.not_true, Bool.false_or, Bool.not_false, Bool.true_or, Bool.and_self, if_true, List.append_nil, List.length_cons]
     have : pHs ls ([] : List PV) = [] := rfl
     rw [this, List.append_nil]
     congr 2
     omega
end Go.Proofs.YtobjgebojhjhnaaDoor
namespace Go.Proofs.YtobjgebojhjhnaaDoor
open Go.RowKit
theorem pWd_lt (n h j : Nat) : j < pWd n h ↔ j * 2 ^ h < n := by
 have hp : 0 < 2 ^ h := Nat.pow_pos (by omega)
 unfold pWd
 rw [Nat.lt_iff_add_one_le, Nat.le_div_iff_mul_le hp, Nat.add_mul, Nat.one_mul]
 omega
theorem pow_s (h : Nat) : 2 ^ (h + 1) = 2 * 2 ^ h := by rw [Nat.pow_succ]; omega
theorem mAlike1_iff : ∀ (x : List (List UInt8)), mAlike1 x = true ↔ ∃ i, 2 * i + 1 < x.length ∧ x.getD (2 * i) [] = x.getD (2 * i + 1) []
 | [] => by simp [mAlike1]
 | [_] => by simp [mAlike1]
 | a :: b :: r => by
  rw [mAlike1, Bool.or_eq_true, mAlike1_iff r]
  constructor
  ·rintro (h | ⟨i, h1, h2⟩)
   ·exact ⟨0, by simp, by simpa using h⟩
   ·exact ⟨i + 1, by simp; omega, by
     rw [show 2 * (i + 1) + 1 = (2 * i + 1) + 1 + 1 by omega, show 2 * (i + 1) = 2 * i + 1 + 1 by omega]
     simpa using h2⟩
  ·rintro ⟨i, h1, h2⟩
   cases i with
   | zero => left; simpa using h2
   | succ i =>
    right
    refine ⟨i, by simp at h1; omega, ?_⟩
    rw [show 2 * (i + 1) + 1 = (2 * i + 1) + 1 + 1 by omega, show 2 * (i + 1) = 2 * i + 1 + 1 by omega] at h2
    simpa using h2
theorem mAlike_iff (l : List (List UInt8)) (n : Nat) (hn : l.length = n) (h0 : 0 < n) (h1 : n ≤ 4096) : mAlike (mLv l) = true ↔ ∃ h i, h ≤ pHt n ∧ 2 * i + 1 < pWd n h ∧ nH (mLv l) h (2 * i) = nH (mLv l) h (2 * i + 1) := by
 obtain ⟨e1, _, e3, _⟩ := lvq_levels l n hn h0 h1
 unfold mAlike
 rw [List.any_eq_true]
 constructor
 ·rintro ⟨x, hx, ha⟩
  obtain ⟨h, hh⟩ := List.mem_iff_getElem?.1 hx
  obtain ⟨i, h2, h3⟩ := (mAlike1_iff x).1 ha
  have hl := e3 h x hh
  have := (List.getElem?_eq_some_iff.1 hh).1
  refine ⟨h, i, by omega, by omega, ?_⟩
  unfold nH
  rw [List.getD_eq_getElem?_getD (l := mLv l), hh]
  exact h3
 ·rintro ⟨h, i, h2, h3, h4⟩
  have hx : (mLv l)[h]? = some ((mLv l)[h]'(by omega)) := List.getElem?_eq_getElem (by omega)
  have hl := e3 h _ hx
  generalize (mLv l)[h]'(by omega) = x at hx hl
  refine ⟨x, List.mem_of_getElem? hx, (mAlike1_iff x).2 ⟨i, by omega, ?_⟩⟩
  unfold nH at h4
  rw [List.getD_eq_getElem?_getD (l := mLv l), hx] at h4
  exact h4
theorem pOk_of {n : Nat} {ms : List Bool} {ls : List (List (List UInt8))} {H : Nat} (hna : ∀ h i, h ≤ H → 2 * i + 1 < pWd n h → nH ls h (2 * i) ≠ nH ls h (2 * i + 1)) : ∀ (h i : Nat), h ≤ H → pOk n ms ls h i = true
 | 0, _, _ => by rw [pOk]
 | h + 1, i, hh => by
  rw [pOk, pOk_of hna h (2 * i) (by omega), pOk_of hna h (2 * i + 1) (by omega)]
  by_cases hw : 2 * i + 1 < pWd n h
  ·have := hna h i (by omega) hw
   simp [hw, this]
  ·simp [hw]
def pLc (n h i : Nat) : Nat := min ((i + 1) * 2 ^ h) n - i * 2 ^ h
theorem pLc_zero {n i : Nat} (hi : i < pWd n 0) : pLc n 0 i = 1 := by
 rw [pWd_zero] at hi
 unfold pLc
 rw [Nat.pow_zero]
 omega
theorem pLc_two {n h i : Nat} (hw : 2 * i + 1 < pWd n h) : pLc n (h + 1) i = pLc n h (2 * i) + pLc n h (2 * i + 1) ∧ i * 2 ^ (h + 1) = 2 * i * 2 ^ h ∧ 2 * i * 2 ^ h + pLc n h (2 * i) = (2 * i + 1) * 2 ^ h := by
 have h1 := (pWd_lt n h (2 * i + 1)).1 hw
 have e1 : i * 2 ^ (h + 1) = 2 * i * 2 ^ h := by rw [pow_s, ← Nat.mul_assoc, Nat.mul_comm i 2]
 have e2 : (i + 1) * 2 ^ (h + 1) = (2 * i + 1) * 2 ^ h + 2 ^ h := by
  rw [pow_s, ← Nat.mul_assoc, Nat.mul_comm (i + 1) 2, Nat.mul_add, ← Nat.succ_mul]
 have e3 : (2 * i + 1) * 2 ^ h = 2 * i * 2 ^ h + 2 ^ h := by rw [Nat.add_mul, Nat.one_mul]
 have e4 : (2 * i + 1 + 1) * 2 ^ h = (2 * i + 1) * 2 ^ h + 2 ^ h := by rw [Nat.succ_mul]
 unfold pLc
 rw [e1, e2, e4]
 generalize (2 * i + 1) * 2 ^ h = B at *
 generalize 2 * i * 2 ^ h = A at *
 generalize 2 ^ h = P at *
 refine ⟨by omega, rfl, by omega⟩
theorem pLc_one {n h i : Nat} (hi : 2 * i < pWd n h) (hw : ¬ 2 * i + 1 < pWd n h) : pLc n (h + 1) i = pLc n h (2 * i) ∧ i * 2 ^ (h + 1) = 2 * i * 2 ^ h := by
 have h1 := (pWd_lt n h (2 * i)).1 hi
 have h2 : ¬ (2 * i + 1) * 2 ^ h < n := fun h' => hw ((pWd_lt n h (2 * i + 1)).2 h')
 have e1 : i * 2 ^ (h + 1) = 2 * i * 2 ^ h := by rw [pow_s, ← Nat.mul_assoc, Nat.mul_comm i 2]
 have e2 : (i + 1) * 2 ^ (h + 1) = (2 * i + 1) * 2 ^ h + 2 ^ h := by
  rw [pow_s, ← Nat.mul_assoc, Nat.mul_comm (i + 1) 2, Nat.mul_add, ← Nat.succ_mul]
 unfold pLc
 rw [e1, e2]
 generalize (2 * i + 1) * 2 ^ h = B at *
 generalize 2 * i * 2 ^ h = A at *
 generalize 2 ^ h = P at *
 exact ⟨by omega, rfl⟩
theorem pLc_pos {n h i : Nat} (hi : i < pWd n h) : 0 < pLc n h i := by
 have h1 := (pWd_lt n h i).1 hi
 have hp : 0 < 2 ^ h := Nat.pow_pos (by omega)
 unfold pLc
 rw [Nat.add_mul, Nat.one_mul]
 omega
theorem pHs_le {n : Nat} (ms : List Bool) (ls : List (List (List UInt8))) : ∀ (h i : Nat), i < pWd n h → (pHs ls (pVis n ms h i)).length ≤ pLc n h i ∧ 0 < (pHs ls (pVis n ms h i)).length
 | 0, i, hi => by rw [pVis, pLc_zero hi, pHs_cons]; simp [PV.told, pHs]
 | h + 1, i, hi => by
  rw [pVis]
  have hi2 : 2 * i < pWd n h := by rw [pWd_succ] at hi; omega
  cases hb : pHas n ms (h + 1) i with
  | false =>
   have := pLc_pos hi
   rw [pHs_cons]
   simp [PV.told, pHs]
   omega
  | true =>
   rw [pHs_not]
   simp only [↓reduceIte]
   have h1 := pHs_le ms ls h (2 * i) hi2
   rw [pHs_append, List.length_append]
   split
   ·rename_i hw
    have h2 := pHs_le ms ls h (2 * i + 1) hw
    rw [(pLc_two hw).1]
    omega
   ·rename_i hw
    rw [(pLc_one hi2 hw).1]
    have : (pHs ls ([] : List PV)).length = 0 := rfl
    omega
theorem pHas_none {n : Nat} {ms : List Bool} {h i p : Nat} (hb : pHas n ms h i = false) (h1 : i * 2 ^ h ≤ p) (h2 : p < i * 2 ^ h + pLc n h i) : ms.getD p false = false := by
 cases e : ms.getD p false with
 | false => rfl
 | true =>
  unfold pLc at h2
  have := pHas_true (n := n) (ms := ms) (h := h) (i := i) (k := p) h1 (by omega) (by omega) e
  rw [hb] at this
  cases this
theorem range'_split (a m k b : Nat) (h : a + m = b) : List.range' a (m + k) = List.range' a m ++ List.range' b k := by
 rw [← h, List.range'_append_1]
def mtF (ms : List Bool) (ls : List (List (List UInt8))) (p : Nat) : Option (Nat × List UInt8) := if ms.getD p false then some (p, nH ls 0 p) else none
theorem pMt_eq {n : Nat} (ms : List Bool) (ls : List (List (List UInt8))) : ∀ (h i : Nat), i < pWd n h → pMt n ms ls h i = (List.range' (i * 2 ^ h) (pLc n h i)).filterMap (mtF ms ls)
 | 0, i, hi => by
  rw [pMt, pLc_zero hi, Nat.pow_zero, Nat.mul_one]
  rw [pWd_zero] at hi
  cases hb : pHas n ms 0 i with
  | false =>
   have := pHas_none (p := i) hb (by simp) (by rw [pLc_zero (by rw [pWd_zero]; exact hi)]; simp)
   rw [if_neg (by simp), List.range'_one, List.filterMap_cons, mtF, this]
   rfl
  | true =>
   obtain ⟨k, k1, k2, k3, k4⟩ := (pHas_iff n ms 0 i).1 hb
   obtain rfl : k = i := by simp at k1 k2; omega
   rw [if_pos rfl, List.range'_one, List.filterMap_cons, mtF, k4]
   rfl
 | h + 1, i, hi => by
  rw [pMt]
  have hi2 : 2 * i < pWd n h := by rw [pWd_succ] at hi; omega
  cases hb : pHas n ms (h + 1) i with
  | false =>
   rw [if_neg (by simp)]
   symm
   rw [List.filterMap_eq_nil_iff]
   intro p hp
   obtain ⟨p1, p2⟩ := List.mem_range'_1.1 hp
   rw [mtF, pHas_none hb p1 p2]
   rfl
  | true =>
   simp only [↓reduceIte]
   rw [pMt_eq ms ls h (2 * i) hi2]
   split
   ·rename_i hw
    obtain ⟨e1, e2, e3⟩ := pLc_two hw
    rw [pMt_eq ms ls h (2 * i + 1) hw, e1, e2, range'_split _ _ _ _ e3, List.filterMap_append]
   ·rename_i hw
    obtain ⟨e1, e2⟩ := pLc_one hi2 hw
    rw [e1, e2, List.append_nil]
end Go.Proofs.YtobjgebojhjhnaaDoor
namespace Go.Proofs.YtobjgebojhjhnaaDoor
open Go.RowKit
theorem nH_zero (hs : List (List UInt8)) (n : Nat) (hn : hs.length = n) (h0 : 0 < n) (h1 : n ≤ 4096) (p : Nat) : nH (mLv hs) 0 p = hs.getD p [] := by
 obtain ⟨_, e2, _, _⟩ := lvq_levels hs n hn h0 h1
 unfold nH
 rw [List.getD_eq_getElem?_getD (l := mLv hs), e2]
 rfl
theorem mRootOf_nH (hs : List (List UInt8)) (n : Nat) (hn : hs.length = n) (h0 : 0 < n) (h1 : n ≤ 4096) : mRootOf (mLv hs) = nH (mLv hs) (pHt n) 0 := by
 obtain ⟨e1, _, e3, _⟩ := lvq_levels hs n hn h0 h1
 unfold mRootOf nH
 rw [List.getLast?_eq_getElem?, e1, Nat.add_sub_cancel, List.getD_eq_getElem?_getD (l := mLv hs)]
 have hx : (mLv hs)[pHt n]? = some ((mLv hs)[pHt n]'(by omega)) := List.getElem?_eq_getElem (by omega)
 have hl := e3 _ _ hx
 have hp := pHt_pos n h0
 rw [hx, Option.map_some, Option.getD_some, Option.getD_some, List.getD_eq_getElem?_getD]
def mts (n : Nat) (ms : List Bool) (hs : List (List UInt8)) : List (Nat × List UInt8) := (List.range n).filterMap fun p => if ms.getD p false then some (p, hs.getD p []) else none
theorem pLc_root (n : Nat) (h1 : n ≤ 4096) : pLc n (pHt n) 0 = n := by
 have h2 := (pHt_spec n h1).2.2
 have hp : 0 < 2 ^ pHt n := Nat.pow_pos (by omega)
 unfold pWd at h2
 rw [Nat.div_le_iff_le_mul hp] at h2
 unfold pLc
 simp only [Nat.zero_add, Nat.one_mul, Nat.zero_mul]
 omega
theorem pMt_root (hs : List (List UInt8)) (ms : List Bool) (n : Nat) (hn : hs.length = n) (h0 : 0 < n) (h1 : n ≤ 4096) : pMt n ms (mLv hs) (pHt n) 0 = mts n ms hs := by
 rw [pMt_eq ms (mLv hs) (pHt n) 0 (pHt_pos n h0), pLc_root n h1, Nat.zero_mul, ← List.range_eq_range']
 unfold mts
 congr 1
 funext p
 rw [mtF, nH_zero hs n hn h0 h1]
theorem pBhs_length (hs : List (List UInt8)) (ms : List Bool) (n : Nat) (hn : hs.length = n) (h0 : 0 < n) (h1 : n ≤ 4096) : 0 < (pBhs hs ms).length ∧ (pBhs hs ms).length ≤ n ∧ (pBhs hs ms).length ≤ (pAll n ms).length := by
 have h := pHs_le ms (mLv hs) (pHt n) 0 (pHt_pos n h0)
 rw [pLc_root n h1] at h
 unfold pBhs
 rw [hn]
 refine ⟨h.2, h.1, ?_⟩
 unfold pHs
 rw [List.length_map]
 exact List.length_filter_le _ _
theorem pBfl_length (n : Nat) (ms : List Bool) : (pBfl n ms).length = ((pAll n ms).length + 7) / 8 := by rw [pBfl, pFlags_length, List.length_map]
theorem pExt_built (hs : List (List UInt8)) (ms : List Bool) (n : Nat) (hn : hs.length = n) (h0 : 0 < n) (h1 : n ≤ 4096) :
  pExt n (pBhs hs ms) (pBfl n ms) = if pOk n ms (mLv hs) (pHt n) 0 then some ⟨mRootOf (mLv hs), mts n ms hs, (pAll n ms).length, (pBhs hs ms).length⟩ else none := by
 obtain ⟨b0, b1, b2⟩ := pBhs_length hs ms n hn h0 h1
 have hfl := pBfl_length n ms
 have hmay : pMay n (pBhs hs ms) (pBfl n ms) = true := decide_eq_true ⟨by omega, h1, b1, by omega⟩
 have hbh : pBhs hs ms = pHs (mLv hs) (pAll n ms) := by rw [pBhs, hn]
 unfold pExt
 rw [if_pos hmay, pRd_vis (plv_of hs n hn h0 h1) (pBfl n ms) (pBhs hs ms) (pHt n) 0 0 0 (Nat.le_refl _) (pHt_pos n h0) (fun j x hx => ?_) (fun j y hy => ?_)]
 ·cases pOk n ms (mLv hs) (pHt n) 0 with
  | false => rfl
  | true =>
   rw [if_pos rfl, if_pos rfl, mRootOf_nH hs n hn h0 h1, pMt_root hs ms n hn h0 h1, Option.filter_some, if_pos]
   ·rw [hbh, Nat.zero_add, Nat.zero_add]
    rfl
   ·have hall : pVis n ms (pHt n) 0 = pAll n ms := rfl
    rw [hall, ← hbh, Nat.zero_add, Nat.zero_add]
    unfold pDone
    rw [decide_eq_true ⟨rfl, hfl.symm⟩, Bool.true_and]
    unfold pRest
    rw [List.all_eq_true]
    intro j hj
    have hj' : j < (8 - (pAll n ms).length % 8) % 8 := List.mem_range.1 hj
    clear hj
    have := pFlags_digits ((pAll n ms).map PV.d) ((pAll n ms).length + j) (by rw [pFlags_length, List.length_map]; omega)
    rw [← show pBfl n ms = pFlags ((pAll n ms).map PV.d) from rfl] at this
    rw [this, List.getD_eq_getElem?_getD, List.getElem?_eq_none (by rw [List.length_map]; omega)]
    rfl
 ·rw [Nat.zero_add]
  have hj := (List.getElem?_eq_some_iff.1 hx).1
  have := pFlags_digits ((pAll n ms).map PV.d) j (by rw [pFlags_length]; unfold pAll; omega)
  rw [← show pBfl n ms = pFlags ((pAll n ms).map PV.d) from rfl] at this
  rw [this, List.getD_eq_getElem?_getD, show ((pAll n ms).map PV.d)[j]? = some x from hx]
  rfl
 ·rw [Nat.zero_add, hbh]
  exact hy
theorem pOk_unlike (hs : List (List UInt8)) (ms : List Bool) (n : Nat) (hn : hs.length = n) (h0 : 0 < n) (h1 : n ≤ 4096) (ha : mAlike (mLv hs) = false) : pOk n ms (mLv hs) (pHt n) 0 = true := by
 refine pOk_of (H := pHt n) (fun h i hh hi e => ?_) _ _ (Nat.le_refl _)
 rw [(mAlike_iff hs n hn h0 h1).2 ⟨h, i, hh, hi, e⟩] at ha
 cases ha
end Go.Proofs.YtobjgebojhjhnaaDoor
