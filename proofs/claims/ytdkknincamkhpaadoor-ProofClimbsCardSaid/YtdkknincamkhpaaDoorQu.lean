/- proof.climber.node: all nodes. -/
import Derived.Test.YtdkknincamkhpaaDoorQt
namespace Go.Proofs.YtdkknincamkhpaaDoor
open Go.RowKit
theorem pPth_lt (n : Nat) (fl : List UInt8) (hs : List (List UInt8)) (pos : Nat) : ∀ (h i d k : Nat), (pPth n fl hs pos h i d k).length < 2 ^ h
  | 0, _, _, _ => by rw [pPth]; exact Nat.one_pos
  | h + 1, i, d, k => by
    have hp : 0 < 2 ^ h := Nat.pow_pos (by omega)
    have e2 : 2 ^ (h + 1) = 2 ^ h + 2 ^ h := by rw [Nat.pow_succ]; omega
    have hsd : ∀ a b, (pSide pos h i a b).length ≤ 1 := fun a b => by
      unfold pSide
      split
      · exact Nat.le_refl _
      · split
        · exact Nat.le_refl _
        · exact Nat.zero_le _
    rw [pPth, e2]
    split
    · split
      · rename_i a _
        have h1 := pPth_lt n fl hs pos h (2 * i) (d + 1) k
        split
        · split
          · rename_i b _
            have h2 := pPth_lt n fl hs pos h (2 * i + 1) a.d a.k
            have h3 := hsd a.x b.x
            rw [List.length_append, List.length_append]
            omega
          · rw [List.length_nil]; omega
        · have h3 := hsd a.x a.x
          rw [List.length_append]
          omega
      · rw [List.length_nil]; omega
    · rw [List.length_nil]; omega
theorem pSide_cases (pos h i : Nat) (a b : List UInt8) : (pos / 2 ^ h = 2 * i ∧ pSide pos h i a b = [b]) ∨ (pos / 2 ^ h = 2 * i + 1 ∧ pSide pos h i a b = [a]) ∨ (pos / 2 ^ h ≠ 2 * i ∧ pos / 2 ^ h ≠ 2 * i + 1 ∧ pSide pos h i a b = []) := by
  unfold pSide
  by_cases h1 : pos / 2 ^ h = 2 * i
  · exact .inl ⟨h1, by rw [if_pos h1]⟩
  · by_cases h2 : pos / 2 ^ h = 2 * i + 1
    · exact .inr (.inl ⟨h2, by rw [if_neg h1, if_pos h2]⟩)
    · exact .inr (.inr ⟨h1, h2, by rw [if_neg h1, if_neg h2]⟩)
theorem node_leaf {w0 w w' : World} {C tot : Nat} {Ah : Option Addr} {nh ch : Nat} {Af : Option Addr} {nf cf pos d k : Nat} {v : Value} {p : List (List UInt8)} {x : List UInt8} {e : Ending} (hC0 : w0.heap.size ≤ C) (hN : NInv w0 C tot Ah nh ch Af nf cf pos d k v p w) (h : e = .returned (.agg (hcs x)) ∧ Av w' C 71 (clc tot Ah nh ch Af nf cf (pos : Int) (d + 1) (k + 1) v) ∧ Fr (fun j => j = C) w w') : NodePost w0 C tot Ah nh ch Af nf cf pos v p [] w (d + 1) (k + 1) x e w' := by
  obtain ⟨h1, h2, h3⟩ := h
  refine ⟨h1, v, ⟨hN.below.trans (h3.below (fun j e => by omega) hN.below.size), h2, ?_⟩, NKeep.ofFr h3⟩
  rw [List.append_nil]
  exact own_fr hN.own h3 (fun j e q => hN.ownC (by rw [e, q]))
theorem PNode (fl : List UInt8) (hs : List (List UInt8)) (h32 : All32 hs) (tot : Nat) (Ah : Option Addr) (nh ch : Nat) (Af : Option Addr) (nf cf : Nat) (pos : Nat) (C : Nat) (hnh : hs.length = nh) (hnf : fl.length = nf) (hnf2 : nf ≤ 10000) (hnh2 : nh ≤ 10000) (w0 : World) (hC0 : w0.heap.size ≤ C) (hrh : Rd w0 Ah (hcl hs)) (hrf : Rd w0 Af (fl.map bv)) (hT : Tabs w0) (htot : tot ≤ 4096) (hpos : pos ≤ 100000) : ∀ (h i d k : Nat) (r : PRes) (v : Value) (p : List (List UInt8)) (w : World), h ≤ 13 → (i + 1) * 2 ^ h ≤ 8192 → p.length + 2 ^ h ≤ 100000 → pRd tot fl hs h i d k = some r → NInv w0 C tot Ah nh ch Af nf cf pos d k v p w →
    Calls Tryd.prog 32 #[.pointer (some ⟨C, 0, none⟩), .int .i64 (h : Int), .int .i64 (i : Int)] w (NodePost w0 C tot Ah nh ch Af nf cf pos v p (pPth tot fl hs pos h i d k) w r.d r.k r.x) := by
  have NO := PNode_no fl hs h32 tot Ah nh ch Af nf cf pos C hnh hnf hnf2 hnh2 w0 hC0 hrh hrf
  have LOW := PNode_low fl hs h32 tot Ah nh ch Af nf cf pos C hnh hnf hnf2 hnh2 w0 hC0 hrh hrf
  have TWO := PNode_two fl hs h32 tot Ah nh ch Af nf cf pos C hnh hnf hnf2 hnh2 w0 hC0 hrh hrf hT
  have ONE := PNode_one fl hs h32 tot Ah nh ch Af nf cf pos C hnh hnf hnf2 hnh2 w0 hC0 hrh hrf hT
  intro h
  induction h with
  | zero =>
    intro i d k r v p w hh hi hp hr hN
    rw [pRd] at hr
    cases e : pDig fl d with
    | none => rw [e] at hr; cases hr
    | some b =>
      rw [e, Option.bind_some] at hr
      cases e1 : hs[k]? with
      | none => rw [e1] at hr; cases hr
      | some x =>
        rw [e1] at hr
        obtain rfl := Option.some.inj hr
        rw [pPth]
        cases b with
        | false => exact (NO d k x e e1 v _ _ w hN.below hN.av).mono fun _ _ h => node_leaf hC0 hN h
        | true => exact (LOW d k x e e1 v _ w hN.below hN.av).mono fun _ _ h => node_leaf hC0 hN h
  | succ h ih =>
    intro i d k r v p w hh hi hp hr hN
    have e2 : 2 ^ (h + 1) = 2 ^ h + 2 ^ h := by rw [Nat.pow_succ]; omega
    rw [e2] at hp
    have hp0 : 0 < 2 ^ h := Nat.pow_pos (by omega)
    have hi2 : (2 * i + 1 + 1) * 2 ^ h ≤ 8192 := by rw [Nat.pow_succ] at hi; rw [show 2 * i + 1 + 1 = 2 * (i + 1) by omega, Nat.mul_comm 2, Nat.mul_assoc, Nat.mul_comm 2]; exact hi
    have hi1 : (2 * i + 1) * 2 ^ h ≤ 8192 := Nat.le_trans (Nat.mul_le_mul_right _ (by omega)) hi2
    have hib : i ≤ 100000 := by
      have := Nat.le_trans (Nat.le_mul_of_pos_right (2 * i + 1 + 1) hp0) hi2
      omega
    rw [pRd] at hr
    cases e : pDig fl d with
    | none => rw [e] at hr; cases hr
    | some b =>
      rw [e, Option.bind_some] at hr
      cases b with
      | false =>
        cases e1 : hs[k]? with
        | none => rw [e1] at hr; cases hr
        | some x =>
          rw [e1] at hr
          obtain rfl := Option.some.inj hr
          rw [pPth, e]
          exact (NO d k x e e1 v _ _ w hN.below hN.av).mono fun _ _ h => node_leaf hC0 hN h
      | true =>
        rw [if_pos rfl] at hr
        cases ea : pRd tot fl hs h (2 * i) (d + 1) k with
        | none => rw [ea] at hr; cases hr
        | some a =>
          rw [ea, Option.bind_some] at hr
          have ha := pRd_bounds tot fl hs h32 _ _ _ _ _ ea
          have l1 := pPth_lt tot fl hs pos h (2 * i) (d + 1) k
          have HL := fun w' hN' => ih (2 * i) (d + 1) k a v p w' (by omega) hi1 (by omega) ea hN'
          rw [show ((2 * i : Nat) : Int) = 2 * (i : Int) by omega] at HL
          by_cases hw : 2 * i + 1 < pWd tot h
          · rw [if_pos hw] at hr
            cases eb : pRd tot fl hs h (2 * i + 1) a.d a.k with
            | none => rw [eb] at hr; cases hr
            | some b =>
              rw [eb, Option.bind_some] at hr
              split at hr
              · cases hr
              · obtain rfl := Option.some.inj hr
                have hb := pRd_bounds tot fl hs h32 _ _ _ _ _ eb
                have l2 := pPth_lt tot fl hs pos h (2 * i + 1) a.d a.k
                have HR := fun v' w' hN' => ih (2 * i + 1) a.d a.k b v' (p ++ pPth tot fl hs pos h (2 * i) (d + 1) k) w' (by omega) hi2 (by rw [List.length_append]; omega) eb hN'
                rw [show ((2 * i + 1 : Nat) : Int) = 2 * (i : Int) + 1 by omega] at HR
                have := TWO d k e h i (by omega) hib htot hpos hw a.x b.x a.d a.k b.d b.k ha.2.2.2.2.2.1 hb.2.2.2.2.2.1 _ _ _ (pSide_cases pos h i a.x b.x) v p (by omega) HL HR w hN
                rw [pPth, e]
                simp only [ea, if_pos hw, eb]
                exact this
          · rw [if_neg hw] at hr
            obtain rfl := Option.some.inj hr
            have := ONE d k e h i (by omega) hib htot hpos hw a.x a.d a.k ha.2.2.2.2.2.1 _ _ (pSide_cases pos h i a.x a.x) v p (by omega) HL w hN
            rw [List.append_nil] at this
            rw [pPth, e]
            simp only [ea, if_neg hw]
            exact this
end Go.Proofs.YtdkknincamkhpaaDoor
