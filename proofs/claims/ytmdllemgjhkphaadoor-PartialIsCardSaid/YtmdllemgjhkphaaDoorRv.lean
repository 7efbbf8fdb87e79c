/- florinref11: taker.visit, any node. -/
import Derived.Test.YtmdllemgjhkphaaDoorRu
namespace Go.Proofs.YtmdllemgjhkphaaDoor
open Go.RowKit
set_option maxHeartbeats 1000000 in
theorem TVisitBad (fl : List UInt8) (tot : Nat) (Ah : Option Addr) (nh ch : Nat) (Af : Option Addr) (nf cf R : Nat) (hs : List (List UInt8)) (hnh : hs.length = nh) (hnf : fl.length = nf) (hnf2 : nf ≤ 10000) (hnh2 : nh ≤ 10000) (w0 : World) (hrh : Rd w0 Ah (hcl hs)) (hrf : Rd w0 Af (fl.map bv)) (hBR : w0.heap.size ≤ R)
    (h : Int) (i d k : Nat) (hi : i ≤ 5000) (hd8 : d ≤ 8 * nf) (hk : k ≤ nh) (l : List (Nat × List UInt8)) (M : Value) (w : World) (hb : Below w0.heap.size w0 w) (hA : Av w R 81 (tkc tot Ah nh ch Af nf cf d k M true)) :
    Calls Tryd.prog 31 #[.pointer (some ⟨R, 0, none⟩), .int .i64 h, .int .i64 (i : Int)] w (TVPost tot Ah nh ch Af nf cf R w0 l w none) := by
  have _u := And.intro hnh (And.intro hnh2 (And.intro hrh hrf))
  cases e : pDig fl d with
  | none =>
    have hd : 8 * nf ≤ d := by
      rcases Nat.lt_or_ge d (8 * fl.length) with h1 | h1
      · rw [pDig_get h1] at e; cases e
      · omega
    exact TV_bad0 fl hs tot Ah nh ch Af nf cf R hnh hnf hnf2 (by first | assumption | omega) w0 (by first | assumption | omega) (by first | assumption | omega) hBR i d k (by first | assumption | omega) hk l M w hb hA h hd hd8
  | some b => exact TV_bad1 fl hs tot Ah nh ch Af nf cf R hnh hnf hnf2 (by first | assumption | omega) w0 (by first | assumption | omega) hrf hBR i d k (by first | assumption | omega) hk l M w hb hA h b e
set_option maxHeartbeats 2000000 in
theorem TVisit (fl : List UInt8) (hs : List (List UInt8)) (h32 : All32 hs) (tot : Nat) (Ah : Option Addr) (nh ch : Nat) (Af : Option Addr) (nf cf R : Nat) (hnh : hs.length = nh) (hnf : fl.length = nf) (hnf2 : nf ≤ 10000) (hnh2 : nh ≤ 10000) (ht0 : 0 < tot) (ht : tot ≤ 4096) (w0 : World) (hrh : Rd w0 Ah (hcl hs)) (hrf : Rd w0 Af (fl.map bv)) (hBR : w0.heap.size ≤ R) :
    ∀ (h : Nat), h ≤ 12 → ∀ (i d k : Nat), i < pWd tot h → d ≤ 8 * nf → k ≤ nh → ∀ (l : List (Nat × List UInt8)), l.length ≤ k → ∀ (M : Value) (w : World), Below w0.heap.size w0 w → Av w R 81 (tkc tot Ah nh ch Af nf cf d k M false) → w.ownsRow w0.heap.size 86 33 M l.length (mlc l) →
    Calls Tryd.prog 31 #[.pointer (some ⟨R, 0, none⟩), .int .i64 (h : Int), .int .i64 (i : Int)] w (TVPost tot Ah nh ch Af nf cf R w0 l w (pRd tot fl hs h i d k)) := by
  intro h
  induction h with
  | zero =>
    intro h12 i d k hiw hd8 hk l hlk M w hb hA ho
    have hi4 : i < tot := by rwa [pWd_zero] at hiw
    cases e : pDig fl d with
    | none =>
      have hd : 8 * nf ≤ d := by
        rcases Nat.lt_or_ge d (8 * fl.length) with h1 | h1
        · rw [pDig_get h1] at e; cases e
        · omega
      rw [pRd_none e]
      exact TV_none fl hs tot Ah nh ch Af nf cf R hnh hnf hnf2 (by first | assumption | omega) w0 (by first | assumption | omega) (by first | assumption | omega) hBR i d k (by first | assumption | omega) hk l M w hb hA ho _ hd hd8
    | some b =>
      rw [pRd_leaf (fun _ => rfl) e]
      cases ex : hs[k]? with
      | none =>
        have hkn : nh ≤ k := by
          rcases Nat.lt_or_ge k nh with h1 | h1
          · rw [List.getElem?_eq_getElem (by omega)] at ex; cases ex
          · exact h1
        cases b with
        | false => exact TV_leaf0_no fl hs tot Ah nh ch Af nf cf R hnh hnf hnf2 (by first | assumption | omega) w0 (by first | assumption | omega) hrf hBR i d k (by first | assumption | omega) hk l M w hb hA ho e hkn
        | true => exact TV_match_no fl hs tot Ah nh ch Af nf cf R hnh hnf hnf2 (by first | assumption | omega) w0 (by first | assumption | omega) hrf hBR i d k (by first | assumption | omega) hk l M w hb hA ho e hkn
      | some x =>
        cases b with
        | false => exact TV_leaf0 fl hs tot Ah nh ch Af nf cf R hnh hnf hnf2 hnh2 w0 hrh hrf hBR i d k (by first | assumption | omega) (by first | assumption | omega) l M w hb hA ho e h32 x ex
        | true => exact TV_match fl hs tot Ah nh ch Af nf cf R hnh hnf hnf2 hnh2 w0 hrh hrf hBR i d k (by first | assumption | omega) (by first | assumption | omega) l M w hb hA ho e hlk h32 x ex
  | succ h ih =>
    intro h12 i d k hiw hd8 hk l hlk M w hb hA ho
    have hi4 : i ≤ 4096 := by have := pWd_le tot (h + 1) ht0; omega
    have hws := pWd_succ tot h
    rw [show ((h + 1 : Nat) : Int) = (h : Int) + 1 by omega]
    cases e : pDig fl d with
    | none =>
      have hd : 8 * nf ≤ d := by
        rcases Nat.lt_or_ge d (8 * fl.length) with h1 | h1
        · rw [pDig_get h1] at e; cases e
        · omega
      rw [pRd_none e]
      exact TV_none fl hs tot Ah nh ch Af nf cf R hnh hnf hnf2 (by first | assumption | omega) w0 (by first | assumption | omega) (by first | assumption | omega) hBR i d k (by first | assumption | omega) hk l M w hb hA ho _ hd hd8
    | some b =>
      cases b with
      | false =>
        rw [pRd_leaf (fun h => by cases h) e]
        cases ex : hs[k]? with
        | none =>
          have hkn : nh ≤ k := by
            rcases Nat.lt_or_ge k nh with h1 | h1
            · rw [List.getElem?_eq_getElem (by omega)] at ex; cases ex
            · exact h1
          exact TV_leafS_no fl hs tot Ah nh ch Af nf cf R hnh hnf hnf2 (by first | assumption | omega) w0 (by first | assumption | omega) hrf hBR i d k (by first | assumption | omega) hk l M w hb hA ho e h hkn
        | some x => exact TV_leafS fl hs tot Ah nh ch Af nf cf R hnh hnf hnf2 hnh2 w0 hrh hrf hBR i d k (by first | assumption | omega) (by first | assumption | omega) l M w hb hA ho e h h32 x ex
      | true =>
        rw [pRd_node e]
        have hdl := pDig_some e
        have HV1 := fun w' b1 a1 o1 => ih (by omega) (2 * i) (d + 1) k (by omega) (by omega) hk l hlk M w' b1 a1 o1
        rw [show ((2 * i : Nat) : Int) = 2 * (i : Int) by omega] at HV1
        cases e1 : pRd tot fl hs h (2 * i) (d + 1) k with
        | none =>
          rw [e1] at HV1
          by_cases hw : 2 * i + 1 < pWd tot h
          · have hwl := pWd_le tot h ht0
            have HB := fun (w' : World) (d2 k2 : Nat) (M2 : Value) hd2 hk2 b2 a2 => TVisitBad fl tot Ah nh ch Af nf cf R hs hnh hnf hnf2 hnh2 w0 hrh hrf hBR (h : Int) (2 * i + 1) d2 k2 (by omega) hd2 hk2 l M2 w' b2 a2
            rw [show ((2 * i + 1 : Nat) : Int) = 2 * (i : Int) + 1 by omega] at HB
            exact TN_none_two fl hs tot Ah nh ch Af nf cf R hnh hnf hnf2 (by first | assumption | omega) w0 (by first | assumption | omega) hrf hBR i d k (by omega) (by first | assumption | omega) l M w hb hA ho h h12 ht e HV1 HB hw
          · exact TN_none_one fl hs tot Ah nh ch Af nf cf R hnh hnf hnf2 (by first | assumption | omega) w0 (by first | assumption | omega) hrf hBR i d k (by omega) (by first | assumption | omega) l M w hb hA ho h h12 ht e HV1 hw
        | some r =>
          obtain ⟨x, lx, dx, kx⟩ := r
          have hbd := pRd_bounds tot fl hs h32 h (2 * i) (d + 1) k _ e1
          dsimp only at hbd
          obtain ⟨q1, q2, q3, q4, q5, x32, q7⟩ := hbd
          rw [e1] at HV1
          rw [Option.bind_some]
          dsimp only
          by_cases hw : 2 * i + 1 < pWd tot h
          · rw [if_pos hw]
            have HV2 := fun (w' : World) (M2 : Value) b2 a2 o2 => ih (by omega) (2 * i + 1) dx kx hw (by omega) (by omega) (l ++ lx) (by rw [List.length_append]; omega) M2 w' b2 a2 o2
            rw [show ((2 * i + 1 : Nat) : Int) = 2 * (i : Int) + 1 by omega] at HV2
            cases e2 : pRd tot fl hs h (2 * i + 1) dx kx with
            | none =>
              rw [e2] at HV2
              exact TN_right_none fl hs tot Ah nh ch Af nf cf R hnh hnf hnf2 (by first | assumption | omega) w0 (by first | assumption | omega) hrf hBR i d k (by omega) (by first | assumption | omega) l M w hb hA ho h h12 ht e x x32 lx dx kx HV1 HV2 hw
            | some s =>
              obtain ⟨y, ly, dy, ky⟩ := s
              have hbd2 := pRd_bounds tot fl hs h32 h (2 * i + 1) dx kx _ e2
              dsimp only at hbd2
              obtain ⟨s1, s2, s3, s4, s5, y32, s7⟩ := hbd2
              rw [e2] at HV2
              rw [Option.bind_some]
              dsimp only
              have hdy : dy ≤ 8 * nf := by omega
              have hky : ky ≤ nh := by omega
              by_cases hxy : x = y
              · rw [if_pos hxy]
                exact TN_alike fl hs tot Ah nh ch Af nf cf R hnh hnf hnf2 (by first | assumption | omega) w0 (by first | assumption | omega) hrf hBR i d k (by omega) (by first | assumption | omega) l M w hb hA ho h h12 ht e x x32 lx dx kx y y32 ly dy ky hdy hky hxy HV1 HV2 hw
              · rw [if_neg hxy]
                exact TN_two fl hs tot Ah nh ch Af nf cf R hnh hnf hnf2 (by first | assumption | omega) w0 (by first | assumption | omega) hrf hBR i d k (by omega) (by first | assumption | omega) l M w hb hA ho h h12 ht e x x32 lx dx kx y y32 ly dy ky hxy HV1 HV2 hw
          · rw [if_neg hw]
            exact TN_one fl hs tot Ah nh ch Af nf cf R hnh hnf hnf2 (by first | assumption | omega) w0 (by first | assumption | omega) hrf hBR i d k (by omega) (by first | assumption | omega) l M w hb hA ho h h12 ht e x x32 lx dx kx HV1 hw
end Go.Proofs.YtmdllemgjhkphaaDoor
