/- U3; Rn; Pq: put together for the claim. -/
import Derived.Test.YtdkknincamkhpaaDoorU2
import Derived.Test.YtdkknincamkhpaaDoorPr16
import Derived.Test.YtdkknincamkhpaaDoorPr12
/- florinref12.walker.visit: all nodes. -/
namespace Go.Proofs.YtdkknincamkhpaaDoor
open Go.RowKit
theorem wnode_leaf {w0 w w' : World} {C tot : Nat} {Ah : Option Addr} {nh ch : Nat} {Af : Option Addr} {nf cf pos d k : Nat} {v : Value} {p : List (List UInt8)} {x : List UInt8} {e : Ending} (hC0 : w0.heap.size ≤ C) (hN : WInv w0 C tot Ah nh ch Af nf cf pos d k v p w) (h : e = .returned (.agg (hcs x)) ∧ Av w' C 76 (clc tot Ah nh ch Af nf cf (pos : Int) (d + 1) (k + 1) v) ∧ Fr (fun j => j = C) w w') : WdPost w0 C tot Ah nh ch Af nf cf pos v p [] w (d + 1) (k + 1) x e w' := by
  obtain ⟨h1, h2, h3⟩ := h
  refine ⟨h1, v, ⟨hN.below.trans (h3.below (fun j e => by omega) hN.below.size), h2, ?_⟩, NKeep.ofFr h3⟩
  rw [List.append_nil]
  exact own_fr hN.own h3 (fun j e q => hN.ownC (by rw [e, q]))
theorem WNode (fl : List UInt8) (hs : List (List UInt8)) (h32 : All32 hs) (tot : Nat) (Ah : Option Addr) (nh ch : Nat) (Af : Option Addr) (nf cf : Nat) (pos : Nat) (C : Nat) (hnh : hs.length = nh) (hnf : fl.length = nf) (hnf2 : nf ≤ 10000) (hnh2 : nh ≤ 10000) (w0 : World) (hC0 : w0.heap.size ≤ C) (hrh : Rd w0 Ah (hcl hs)) (hrf : Rd w0 Af (fl.map bv)) (htot : tot ≤ 4096) (hpos : pos ≤ 100000) : ∀ (h i d k : Nat) (r : PRes) (v : Value) (p : List (List UInt8)) (w : World), h ≤ 13 → (i + 1) * 2 ^ h ≤ 8192 → p.length + 2 ^ h ≤ 100000 → pRd tot fl hs h i d k = some r → WInv w0 C tot Ah nh ch Af nf cf pos d k v p w →
    Calls Tryd.prog 34 #[.pointer (some ⟨C, 0, none⟩), .int .i64 (h : Int), .int .i64 (i : Int)] w (WdPost w0 C tot Ah nh ch Af nf cf pos v p (pPth tot fl hs pos h i d k) w r.d r.k r.x) := by
  have NO := WNode_no fl hs h32 tot Ah nh ch Af nf cf pos C hnh hnf hnf2 hnh2 w0 hC0 hrh hrf
  have LOW := WNode_low fl hs h32 tot Ah nh ch Af nf cf pos C hnh hnf hnf2 hnh2 w0 hC0 hrh hrf
  have TWO := WNode_two fl hs h32 tot Ah nh ch Af nf cf pos C hnh hnf hnf2 hnh2 w0 hC0 hrh hrf
  have ONE := WNode_one fl hs h32 tot Ah nh ch Af nf cf pos C hnh hnf hnf2 hnh2 w0 hC0 hrh hrf
  intro h
  induction h with
  | zero =>
    intro i d k r v p w hh hi hp hr hN
    rw [pRd] at hr
    cases e : pDig fl d with
    | none => rw [e] at hr; cases hr
    | some b =>
      rw [e, Option.bind_some] at hr
      cases e1 : hs[k]? with
      | none => rw [e1] at hr; cases hr
      | some x =>
        rw [e1] at hr
        obtain rfl := Option.some.inj hr
        rw [pPth]
        cases b with
        | false => exact (NO d k x e e1 v _ _ w hN.below hN.av).mono fun _ _ h => wnode_leaf hC0 hN h
        | true => exact (LOW d k x e e1 v _ w hN.below hN.av).mono fun _ _ h => wnode_leaf hC0 hN h
  | succ h ih =>
    intro i d k r v p w hh hi hp hr hN
    have e2 : 2 ^ (h + 1) = 2 ^ h + 2 ^ h := by rw [Nat.pow_succ]; omega
    rw [e2] at hp
    have hp0 : 0 < 2 ^ h := Nat.pow_pos (by omega)
    have hi2 : (2 * i + 1 + 1) * 2 ^ h ≤ 8192 := by rw [Nat.pow_succ] at hi; rw [show 2 * i + 1 + 1 = 2 * (i + 1) by omega, Nat.mul_comm 2, Nat.mul_assoc, Nat.mul_comm 2]; exact hi
    have hi1 : (2 * i + 1) * 2 ^ h ≤ 8192 := Nat.le_trans (Nat.mul_le_mul_right _ (by omega)) hi2
    have hib : i ≤ 100000 := by
      have := Nat.le_trans (Nat.le_mul_of_pos_right (2 * i + 1 + 1) hp0) hi2
      omega
    rw [pRd] at hr
    cases e : pDig fl d with
    | none => rw [e] at hr; cases hr
    | some b =>
      rw [e, Option.bind_some] at hr
      cases b with
      | false =>
        cases e1 : hs[k]? with
        | none => rw [e1] at hr; cases hr
        | some x =>
          rw [e1] at hr
          obtain rfl := Option.some.inj hr
          rw [pPth, e]
          exact (NO d k x e e1 v _ _ w hN.below hN.av).mono fun _ _ h => wnode_leaf hC0 hN h
      | true =>
        rw [if_pos rfl] at hr
        cases ea : pRd tot fl hs h (2 * i) (d + 1) k with
        | none => rw [ea] at hr; cases hr
        | some a =>
          rw [ea, Option.bind_some] at hr
          have ha := pRd_bounds tot fl hs h32 _ _ _ _ _ ea
          have l1 := pPth_lt tot fl hs pos h (2 * i) (d + 1) k
          have HL := fun w' hN' => ih (2 * i) (d + 1) k a v p w' (by omega) hi1 (by omega) ea hN'
          rw [show ((2 * i : Nat) : Int) = 2 * (i : Int) by omega] at HL
          by_cases hw : 2 * i + 1 < pWd tot h
          · rw [if_pos hw] at hr
            cases eb : pRd tot fl hs h (2 * i + 1) a.d a.k with
            | none => rw [eb] at hr; cases hr
            | some b =>
              rw [eb, Option.bind_some] at hr
              split at hr
              · cases hr
              · obtain rfl := Option.some.inj hr
                have hb := pRd_bounds tot fl hs h32 _ _ _ _ _ eb
                have l2 := pPth_lt tot fl hs pos h (2 * i + 1) a.d a.k
                have HR := fun v' w' hN' => ih (2 * i + 1) a.d a.k b v' (p ++ pPth tot fl hs pos h (2 * i) (d + 1) k) w' (by omega) hi2 (by rw [List.length_append]; omega) eb hN'
                rw [show ((2 * i + 1 : Nat) : Int) = 2 * (i : Int) + 1 by omega] at HR
                have := TWO d k e h i (by omega) hib htot hpos hw a.x b.x a.d a.k b.d b.k ha.2.2.2.2.2.1 hb.2.2.2.2.2.1 _ _ _ (pSide_cases pos h i a.x b.x) v p (by omega) HL HR w hN
                rw [pPth, e]
                simp only [ea, if_pos hw, eb]
                exact this
          · rw [if_neg hw] at hr
            obtain rfl := Option.some.inj hr
            have := ONE d k e h i (by omega) hib htot hpos hw a.x a.d a.k ha.2.2.2.2.2.1 _ _ (pSide_cases pos h i a.x a.x) v p (by omega) HL w hN
            rw [List.append_nil] at this
            rw [pPth, e]
            simp only [ea, if_neg hw]
            exact this
end Go.Proofs.YtdkknincamkhpaaDoor
/- florinref11: taker.next. -/
namespace Go.Proofs.YtdkknincamkhpaaDoor
open Go.RowKit
/-- the cells of a taker -/
def tkc (tot : Nat) (Ah : Option Addr) (nh ch : Nat) (Af : Option Addr) (nf cf d k : Nat) (M : Value) (b : Bool) : List Value :=
  [.int .u32 tot, .slice Ah nh ch, .slice Af nf cf, .int .i64 tot, .int .i64 d, .int .i64 k, M, .bool b]
set_option maxRecDepth 10000 in
set_option maxHeartbeats 1000000 in
theorem TNext_no (tot : Nat) (Ah : Option Addr) (nh ch : Nat) (Af : Option Addr) (nf cf d k R : Nat) (M : Value) (b : Bool) (hd : 8 * nf ≤ d) (hd2 : d ≤ 1000000) (w : World) (hA : Av w R 125 (tkc tot Ah nh ch Af nf cf d k M b)) :
    Calls Tryd.prog 67 #[.pointer (some ⟨R, 0, none⟩)] w fun e w' => e = .returned (.bool false) ∧ Av w' R 125 (tkc tot Ah nh ch Af nf cf d k M true) ∧ Fr (fun j => j = R) w w' := by
  unfold tkc at hA
  have c2 := hA.cell 2 _ rfl
  have c4 := hA.cell 4 _ rfl
  have f7 := frozen_of_row _ _ 7 _ _ hA
  have c7 := hA.cell 7 _ rfl
  have t1 : decide (8 * (nf : Int) ≤ (d : Int)) = true := by simp; omega
  have e1 : IntKind.i64.wrap (8 * (nf : Int)) = 8 * (nf : Int) := by rw [IntKind.wrap_i64]; omega
  have fr1 := Fr.setCell w ⟨R, 7, none⟩ (.bool true)
  have hA2 := hA.set 7 (.bool true)
  replace hA2 := Lib.hid hA2
  replace fr1 := Lib.hid fr1
  clear c2 c4 f7 c7 fr1 hA2
  go_enter Tryd.func67, Tryd.ntmps67
  go_upto_region 1 with fail
  refine wp_region_rel [] Ext (by kernel_rfl) (by kernel_rfl) (by kernel_rfl) Ext.refl Ext.trans (by intro p hp; cases hp) ?_
  refine relMove Ext.refl rfl rfl rfl rfl _ (.inl rfl) (by conv => lhs; whnf) (by simp only [List.set_cons_succ, List.set_cons_zero]; rfl) ?_
  refine relPure Ext.refl rfl rfl rfl rfl (fun w _ => by go_simp; first | done | rfl) (by simp only [List.set_cons_succ, List.set_cons_zero]; rfl) ?_
  refine relPure Ext.refl rfl rfl rfl rfl (fun w _ => by go_simp; first | done | rfl) (by simp only [List.set_cons_succ, List.set_cons_zero]; rfl) ?_
  refine relPure Ext.refl rfl rfl rfl rfl (c := .int .i64 (d : Int)) (fun w hw => by have := (hA.below hw.drew).cell 4 _ rfl; go_simp; first | done | rfl) (by simp only [List.set_cons_succ, List.set_cons_zero]; rfl) ?_
  refine relMove Ext.refl rfl rfl rfl rfl _ (.inl rfl) (by conv => lhs; whnf) (by simp only [List.set_cons_succ, List.set_cons_zero]; rfl) ?_
  refine relPure Ext.refl rfl rfl rfl rfl (fun w _ => by go_simp; first | done | rfl) (by simp only [List.set_cons_succ, List.set_cons_zero]; rfl) ?_
  refine relPure Ext.refl rfl rfl rfl rfl (fun w _ => by go_simp; first | done | rfl) (by simp only [List.set_cons_succ, List.set_cons_zero]; rfl) ?_
  refine relPure Ext.refl rfl rfl rfl rfl (fun w _ => by go_simp; first | done | rfl) (by simp only [List.set_cons_succ, List.set_cons_zero]; rfl) ?_
  refine relPure Ext.refl rfl rfl rfl rfl (c := .slice Af nf cf) (fun w hw => by have := (hA.below hw.drew).cell 2 _ rfl; go_simp; first | done | rfl) (by simp only [List.set_cons_succ, List.set_cons_zero]; rfl) ?_
  refine relPure Ext.refl rfl rfl rfl rfl (fun w _ => by go_simp; first | done | rfl) (by simp only [List.set_cons_succ, List.set_cons_zero]; rfl) ?_
  refine relPure Ext.refl rfl rfl rfl rfl (fun w _ => by go_simp; first | done | rfl) (by simp only [List.set_cons_succ, List.set_cons_zero]; rfl) ?_
  refine relPure Ext.refl rfl rfl rfl rfl (c := .bool true) (fun w hw => by go_simp; first | done | rfl) (by simp only [List.set_cons_succ, List.set_cons_zero]; rfl) ?_
  refine relEnd fun w2 hw2 => fill_end ?_
  have e2 := hw2.drew
  have a2 := hA.below e2
  have f7 := frozen_of_row _ _ 7 _ _ a2
  have c7 := a2.cell 7 _ rfl
  have fr1 := (Below.fr (S := fun j => j = R) e2).trans (Fr.setCell w2 ⟨R, 7, none⟩ (.bool true))
  have hA2 := a2.set 7 (.bool true)
  replace hA2 := Lib.hid hA2
  replace fr1 := Lib.hid fr1
  go_wp2
  go_ret
  exact ⟨rfl, hA2.out, fr1.out⟩
set_option maxRecDepth 10000 in
set_option maxHeartbeats 1000000 in
theorem TNext (fl : List UInt8) (b : Bool) (tot : Nat) (Ah : Option Addr) (nh ch : Nat) (Af : Option Addr) (nf cf d k R : Nat) (M : Value) (bad : Bool) (hnf : fl.length = nf) (hnf2 : nf ≤ 10000) (hd : pDig fl d = some b) (hd2 : d ≤ 1000000) (w : World) (hA : Av w R 125 (tkc tot Ah nh ch Af nf cf d k M bad)) (hr : Rd w Af (fl.map bv)) :
    Calls Tryd.prog 67 #[.pointer (some ⟨R, 0, none⟩)] w fun e w' => e = .returned (.bool b) ∧ Av w' R 125 (tkc tot Ah nh ch Af nf cf (d + 1) k M bad) ∧ Fr (fun j => j = R) w w' := by
  unfold tkc at hA
  have c2 := hA.cell 2 _ rfl
  have c4 := hA.cell 4 _ rfl
  have f4 := frozen_of_row _ _ 4 _ _ hA
  have hlt := pDig_some hd
  rw [pDig_get hlt] at hd
  obtain rfl := Option.some.inj hd
  obtain ⟨q, hq⟩ : ∃ q, q = d / 8 := ⟨_, rfl⟩
  obtain ⟨s, hs⟩ : ∃ s, s = d % 8 := ⟨_, rfl⟩
  have e1 : (d : Int) / 8 = (q : Int) := by omega
  have e2 : (d : Int) % 8 = (s : Int) := by omega
  have t1 : decide (8 * (nf : Int) ≤ (d : Int)) = false := by simp; omega
  have e3 : IntKind.i64.wrap (8 * (nf : Int)) = 8 * (nf : Int) := by rw [IntKind.wrap_i64]; omega
  have s0 : (0 : Int) ≤ (s : Int) := by omega
  have s8 : (s : Int) < 8 := by omega
  have hqn : q < nf := by omega
  rw [← hq, ← hs]
  obtain ⟨x, hx⟩ : ∃ x, x = fl.getD q 0 := ⟨_, rfl⟩
  have hg : fl[q]? = some x := by rw [hx, List.getD_eq_getElem?_getD, List.getElem?_eq_getElem (by omega)]; rfl
  rw [← hx]
  obtain ⟨bb, off, e⟩ := hr.someA (by intro h; have := congrArg List.length h; rw [List.length_map, hnf] at this; simp at this; omega)
  subst e
  have cx : ∀ w', Below w.heap.size w w' → w'.cell? ⟨bb, off + q, none⟩ = some (bv x) := by
    intro w' hE
    rcases hr.below hE with h | ⟨b', o', hA', hc⟩
    · have := congrArg List.length h; rw [List.length_map, hnf] at this; simp at this; omega
    · cases hA'
      exact hc q _ (by rw [List.getElem?_map, hg]; rfl)
  have m0 : 0 ≤ (q : Int) := by omega
  have wq : IntKind.i64.wrap (q : Int) = (q : Int) := by rw [IntKind.wrap_i64]; omega
  have tm : (d : Int).tmod 8 = (s : Int) := by rw [Int.tmod_eq_emod_of_nonneg (by omega)]; omega
  have wu : IntKind.u64.wrap (s : Int) = (s : Int) := by rw [IntKind.wrap_u64]; omega
  have mn : min s 8 = s := by omega
  have ws : IntKind.i64.wrap (s : Int) = (s : Int) := by rw [IntKind.wrap_i64]; omega
  have m1 : (q : Int) < (nf : Int) := by omega
  replace cx := Lib.hid cx
  clear c2 c4 f4
  replace hq := Lib.hid hq
  replace hs := Lib.hid hs
  replace hx := Lib.hid hx
  replace hg := Lib.hid hg
  replace hnf := Lib.hid hnf
  have hxl := Cm.u8_lt x
  go_enter Tryd.func67, Tryd.ntmps67
  go_upto_region 1 with fail
  refine wp_region_rel [] Ext (by kernel_rfl) (by kernel_rfl) (by kernel_rfl) Ext.refl Ext.trans (by intro p hp; cases hp) ?_
  refine relMove Ext.refl rfl rfl rfl rfl _ (.inl rfl) (by conv => lhs; whnf) (by simp only [List.set_cons_succ, List.set_cons_zero]; rfl) ?_
  refine relPure Ext.refl rfl rfl rfl rfl (fun w _ => by go_simp; first | done | rfl) (by simp only [List.set_cons_succ, List.set_cons_zero]; rfl) ?_
  refine relPure Ext.refl rfl rfl rfl rfl (fun w _ => by go_simp; first | done | rfl) (by simp only [List.set_cons_succ, List.set_cons_zero]; rfl) ?_
  refine relPure Ext.refl rfl rfl rfl rfl (c := .int .i64 (d : Int)) (fun w hw => by have := (hA.below hw.drew).cell 4 _ rfl; go_simp; first | done | rfl) (by simp only [List.set_cons_succ, List.set_cons_zero]; rfl) ?_
  refine relMove Ext.refl rfl rfl rfl rfl _ (.inl rfl) (by conv => lhs; whnf) (by simp only [List.set_cons_succ, List.set_cons_zero]; rfl) ?_
  refine relPure Ext.refl rfl rfl rfl rfl (fun w _ => by go_simp; first | done | rfl) (by simp only [List.set_cons_succ, List.set_cons_zero]; rfl) ?_
  refine relPure Ext.refl rfl rfl rfl rfl (fun w _ => by go_simp; first | done | rfl) (by simp only [List.set_cons_succ, List.set_cons_zero]; rfl) ?_
  refine relPure Ext.refl rfl rfl rfl rfl (fun w _ => by go_simp; first | done | rfl) (by simp only [List.set_cons_succ, List.set_cons_zero]; rfl) ?_
  refine relPure Ext.refl rfl rfl rfl rfl (c := .slice (some ⟨bb, off, none⟩) nf cf) (fun w hw => by have := (hA.below hw.drew).cell 2 _ rfl; go_simp; first | done | rfl) (by simp only [List.set_cons_succ, List.set_cons_zero]; rfl) ?_
  refine relPure Ext.refl rfl rfl rfl rfl (fun w _ => by go_simp; first | done | rfl) (by simp only [List.set_cons_succ, List.set_cons_zero]; rfl) ?_
  refine relPure Ext.refl rfl rfl rfl rfl (fun w _ => by go_simp; first | done | rfl) (by simp only [List.set_cons_succ, List.set_cons_zero]; rfl) ?_
  refine relPure Ext.refl rfl rfl rfl rfl (c := .bool false) (fun w hw => by go_simp; first | done | rfl) (by simp only [List.set_cons_succ, List.set_cons_zero]; rfl) ?_
  refine relEnd fun w2 hw2 => fill_end ?_
  have e2 := hw2.drew
  have a2 := hA.below e2
  go_upto_region 4 with fail
  refine wp_region_rel [] Ext (by kernel_rfl) (by kernel_rfl) (by kernel_rfl) Ext.refl Ext.trans (by intro p hp; cases hp) ?_
  refine relMove Ext.refl rfl rfl rfl rfl _ (.inl rfl) (by conv => lhs; whnf) (by simp only [List.set_cons_succ, List.set_cons_zero]; rfl) ?_
  refine relPure Ext.refl rfl rfl rfl rfl (fun w _ => by go_simp; first | done | rfl) (by simp only [List.set_cons_succ, List.set_cons_zero]; rfl) ?_
  refine relPure Ext.refl rfl rfl rfl rfl (fun w _ => by go_simp; first | done | rfl) (by simp only [List.set_cons_succ, List.set_cons_zero]; rfl) ?_
  refine relPure Ext.refl rfl rfl rfl rfl (fun w _ => by go_simp; first | done | rfl) (by simp only [List.set_cons_succ, List.set_cons_zero]; rfl) ?_
  refine relPure Ext.refl rfl rfl rfl rfl (c := .slice (some ⟨bb, off, none⟩) nf cf) (fun w hw => by have := (a2.below hw.drew).cell 2 _ rfl; go_simp; first | done | rfl) (by simp only [List.set_cons_succ, List.set_cons_zero]; rfl) ?_
  refine relMove Ext.refl rfl rfl rfl rfl _ (.inl rfl) (by conv => lhs; whnf) (by simp only [List.set_cons_succ, List.set_cons_zero]; rfl) ?_
  refine relPure Ext.refl rfl rfl rfl rfl (fun w _ => by go_simp; first | done | rfl) (by simp only [List.set_cons_succ, List.set_cons_zero]; rfl) ?_
  refine relPure Ext.refl rfl rfl rfl rfl (fun w _ => by go_simp; first | done | rfl) (by simp only [List.set_cons_succ, List.set_cons_zero]; rfl) ?_
  refine relPure Ext.refl rfl rfl rfl rfl (c := .int .i64 (d : Int)) (fun w hw => by have := (a2.below hw.drew).cell 4 _ rfl; go_simp; first | done | rfl) (by simp only [List.set_cons_succ, List.set_cons_zero]; rfl) ?_
  refine relPure Ext.refl rfl rfl rfl rfl (c := .int .i64 (q : Int)) (fun w hw => by go_simp; first | done | rfl) (by simp only [List.set_cons_succ, List.set_cons_zero]; rfl) ?_
  refine relPure Ext.refl rfl rfl rfl rfl (fun w _ => by go_simp; first | done | rfl) (by simp only [List.set_cons_succ, List.set_cons_zero]; rfl) ?_
  refine relPure Ext.refl rfl rfl rfl rfl (c := bv x) (fun w hw => by have := cx.out w (Below.trans e2 (hw.drew.mono e2.size)); go_simp; first | done | rfl) (by simp only [List.set_cons_succ, List.set_cons_zero]; rfl) ?_
  refine relMove Ext.refl rfl rfl rfl rfl _ (.inl rfl) (by conv => lhs; whnf) (by simp only [List.set_cons_succ, List.set_cons_zero]; rfl) ?_
  refine relPure Ext.refl rfl rfl rfl rfl (fun w _ => by go_simp; first | done | rfl) (by simp only [List.set_cons_succ, List.set_cons_zero]; rfl) ?_
  refine relPure Ext.refl rfl rfl rfl rfl (fun w _ => by go_simp; first | done | rfl) (by simp only [List.set_cons_succ, List.set_cons_zero]; rfl) ?_
  refine relPure Ext.refl rfl rfl rfl rfl (c := .int .i64 (d : Int)) (fun w hw => by have := (a2.below hw.drew).cell 4 _ rfl; go_simp; first | done | rfl) (by simp only [List.set_cons_succ, List.set_cons_zero]; rfl) ?_
  refine relPure Ext.refl rfl rfl rfl rfl (c := .int .i64 (s : Int)) (fun w hw => by go_simp; first | done | rfl) (by simp only [List.set_cons_succ, List.set_cons_zero]; rfl) ?_
  refine relPure Ext.refl rfl rfl rfl rfl (fun w _ => by go_simp; first | done | rfl) (by simp only [List.set_cons_succ, List.set_cons_zero]; rfl) ?_
  refine relPure Ext.refl rfl rfl rfl rfl (fun w _ => by go_simp; first | done | rfl) (by simp only [List.set_cons_succ, List.set_cons_zero]; rfl) ?_
  refine relPure Ext.refl rfl rfl rfl rfl (fun w _ => by go_simp; first | done | rfl) (by simp only [List.set_cons_succ, List.set_cons_zero]; rfl) ?_
  refine relPure Ext.refl rfl rfl rfl rfl (fun w _ => by go_simp; first | done | rfl) (by simp only [List.set_cons_succ, List.set_cons_zero]; rfl) ?_
  refine relMove Ext.refl rfl rfl rfl rfl _ (.inr rfl) (by conv => lhs; whnf) (by simp only [List.set_cons_succ, List.set_cons_zero]; rfl) ?_
  refine relEnd fun w3 hw3 => fill_end ?_
  have e3 := Below.trans e2 (hw3.drew.mono e2.size)
  have a3 := hA.below e3
  have c4 := a3.cell 4 _ rfl
  have f4 := frozen_of_row _ _ 4 _ _ a3
  have fr1 := (Below.fr (S := fun j => j = R) e3).trans (Fr.setCell w3 ⟨R, 4, none⟩ (.int .i64 ((d : Int) + 1)))
  have hA2 := a3.set 4 (.int .i64 ((d : Int) + 1))
  replace hA2 := Lib.hid hA2
  replace fr1 := Lib.hid fr1
  go_wp2
  go_ret
  refine ⟨?_, hA2.out, fr1.out⟩
  rw [← and_one_u8 _ _ hxl]
  first | done | rfl | (show Ending.returned (Value.bool _) = Ending.returned (Value.bool _); rw [wu, Int.toNat_natCast, mn])
end Go.Proofs.YtdkknincamkhpaaDoor
/- partial: has a node a match? -/
namespace Go.Proofs.YtdkknincamkhpaaDoor
open Go.RowKit
attribute [local go_sem high] slB_lh slB_l slB_h
/-- has a node a match? -/
def pHas (n : Nat) (ms : List Bool) (h i : Nat) : Bool := (List.range (2 ^ h)).any fun j => decide (i * 2 ^ h + j < n) && ms.getD (i * 2 ^ h + j) false
theorem pHas_true {n : Nat} {ms : List Bool} {h i k : Nat} (h1 : i * 2 ^ h ≤ k) (h2 : k < (i + 1) * 2 ^ h) (h3 : k < n) (h4 : ms.getD k false = true) : pHas n ms h i = true := by
  unfold pHas
  rw [Nat.add_mul, Nat.one_mul] at h2
  rw [List.any_eq_true]
  exact ⟨k - i * 2 ^ h, List.mem_range.2 (by omega), by rw [show i * 2 ^ h + (k - i * 2 ^ h) = k by omega, decide_eq_true h3, h4]; rfl⟩
theorem pHas_false {n : Nat} {ms : List Bool} {h i : Nat} (hf : ∀ k, i * 2 ^ h ≤ k → k < (i + 1) * 2 ^ h → k < n → k < ms.length → ms.getD k false = false) : pHas n ms h i = false := by
  unfold pHas
  rw [List.any_eq_false]
  intro j hj
  have := List.mem_range.1 hj
  by_cases h1 : i * 2 ^ h + j < n
  · by_cases h2 : i * 2 ^ h + j < ms.length
    · rw [hf _ (by omega) (by rw [Nat.add_mul, Nat.one_mul]; omega) h1 h2]; simp
    · rw [List.getD_eq_getElem?_getD, List.getElem?_eq_none (by omega)]; simp
  · rw [decide_eq_false h1]; simp
set_option maxRecDepth 10000 in
set_option maxHeartbeats 2000000 in
theorem PMatches (ms : List Bool) (nm cm : Nat) (Am : Option Addr) (n h i : Nat) (hnm : ms.length = nm) (hnm2 : nm ≤ 1000000) (hn : n ≤ 4096) (h1 : h ≤ 12) (i1 : i ≤ 4096) (w : World) (hr : Rd w Am (ms.map Value.bool)) :
    Calls Tryd.prog 65 #[.agg (ndc (h : Int) (i : Int)).toArray, .int .i64 (n : Int), .slice Am nm cm] w fun e w' => e = .returned (.bool (pHas n ms h i)) ∧ Below w.heap.size w w' := by
  unfold ndc
  obtain ⟨W, hW⟩ : ∃ W, W = w.alloc (.cells [.int .i64 (h : Int), .int .i64 (i : Int)].toArray 91) := ⟨_, rfl⟩
  obtain ⟨H, hH⟩ : ∃ H, H = w.heap.size := ⟨_, rfl⟩
  have bW : Below w.heap.size w W := by rw [hW]; exact (Below.refl _ _).alloc (Nat.le_refl _) _
  have aN : Av W H 91 (ndc (h : Int) (i : Int)) := by rw [hW, hH]; exact Av.new _ _ _
  have c0 := aN.cell 0 _ rfl
  have c1 := aN.cell 1 _ rfl
  have r1 := hr.below bW
  have hp : 2 ^ h ≤ 2 ^ 12 := Nat.pow_le_pow_right (by omega) h1
  obtain ⟨P, hP⟩ : ∃ P, P = 2 ^ h := ⟨_, rfl⟩
  rw [← hP] at hp
  have hip : (i + 1) * P ≤ 4097 * 4096 := Nat.mul_le_mul (by omega) (by omega)
  have hip0 : (i + 1) * P = i * P + P := by rw [Nat.add_mul, Nat.one_mul]
  obtain ⟨a, ha⟩ : ∃ a, a = i * P := ⟨_, rfl⟩
  obtain ⟨b, hb⟩ : ∃ b, b = min ((i + 1) * P) (min n nm) := ⟨_, rfl⟩
  have pw : (2 : Int) ^ h = ((P : Nat) : Int) := by rw [hP]; simp
  have sh0 : IntKind.i64.wrap ((i : Int) * 2 ^ h) = (a : Int) := by
    rw [pw, ← Int.natCast_mul, ← ha, IntKind.wrap_i64]
    omega
  obtain ⟨E, hE⟩ : ∃ E, E = (i + 1) * P := ⟨_, rfl⟩
  have sh1 : IntKind.i64.wrap (((i : Int) + 1) * 2 ^ h) = (E : Int) := by
    rw [pw, show (i : Int) + 1 = ((i + 1 : Nat) : Int) by simp, ← Int.natCast_mul, hE, IntKind.wrap_i64]
    omega
  have mi : (if (nm : Int) < (if n < E then (n : Int) else (E : Int)) then (nm : Int) else if n < E then (n : Int) else (E : Int)) = (b : Int) := by rw [hb, ← hE]; split <;> split at * <;> omega
  clear pw
  replace hE := Lib.hid hE
  have h64 : (h : Int) < 64 := by omega
  replace hW := Lib.hid hW
  replace hH := Lib.hid hH
  replace hP := Lib.hid hP
  replace ha := Lib.hid ha
  replace hb := Lib.hid hb
  replace hip := Lib.hid hip
  replace hip0 := Lib.hid hip0
  replace hnm := Lib.hid hnm
  go_enter Tryd.func65, Tryd.ntmps65
  go_upto_region 1 with fail
  rw [← hW.out, ← hH.out]
  go_upto_region 2 with fail
  clear mi
  go_wp2
  go_loop [8] (fun v => ∃ k : Nat, a ≤ k ∧ k ≤ max a b ∧ v = .int .i64 (k : Int) ∧ Hid (∀ j, a ≤ j → j < k → ms.getD j false = false)) (fun v => b - (intOf v).toNat)
  case atStart => exact ⟨a, Nat.le_refl _, by omega, rfl, Lib.hid (fun j h1 h2 => absurd h1 (by omega))⟩
  case round =>
    obtain ⟨k, hak, hkb, rfl, hall⟩ := hrel
    have kb : k ≤ 20000000 := by have := hip.out; have := hb.out; have := ha.out; have := hip0.out; omega
    by_cases hlt : k < b
    · have t1 : decide ((k : Int) < (b : Int)) = true := by simp; omega
      have hknm : k < nm := by have := hb.out; omega
      obtain ⟨v, hv⟩ : ∃ v, v = ms.getD k false := ⟨_, rfl⟩
      have hg : ms[k]? = some v := by rw [hv, List.getD_eq_getElem?_getD, List.getElem?_eq_getElem (by rw [hnm.out]; exact hknm)]; rfl
      obtain ⟨bb, off, rfl⟩ := r1.someA (by intro h; have := congrArg List.length h; rw [List.length_map, hnm.out] at this; simp at this; omega)
      have cx : W.cell? ⟨bb, off + k, none⟩ = some (.bool v) := by
        rcases r1 with h | ⟨b', o', hA', hc⟩
        · have := congrArg List.length h; rw [List.length_map, hnm.out] at this; simp at this; omega
        · cases hA'
          exact hc k _ (by rw [List.getElem?_map, hg]; rfl)
      replace hg := Lib.hid hg
      replace hv := Lib.hid hv
      cases v
      · go_wp2
        go_round
        case rel =>
          refine ⟨k + 1, by omega, by omega, ?_, Lib.hid ?_⟩
          · go_num
          · intro j h1 h2
            by_cases hjk : j = k
            · rw [hjk, ← hv.out]
            · exact hall.out j h1 (by omega)
        case measure =>
          simp [intOf]
          omega
      · go_wp2
        go_ret
        refine ⟨?_, bW⟩
        have h1 := hb.out
        have h2 := ha.out
        have h3 := hP.out
        rw [h2, h3] at hak
        rw [h3] at h1
        rw [pHas_true hak (by omega) (by omega) hv.out.symm]
        rfl
    · have t1 : decide ((k : Int) < (b : Int)) = false := by simp; omega
      go_wp2
      go_ret
      refine ⟨?_, bW⟩
      have h1 := hb.out
      have h2 := ha.out
      have h3 := hP.out
      rw [h3] at h1 h2
      rw [pHas_false (fun j q1 q2 q3 q4 => hall.out j (by omega) (by rw [hnm.out] at q4; omega))]
      rfl
end Go.Proofs.YtdkknincamkhpaaDoor
