/- florinlaw08.TxIs: the walk. -/
import Derived.Test.YtopgljkfoogihaaDoorV4
import Derived.Test.YtopgljkfoogihaaDoorV5
import Derived.Test.YtopgljkfoogihaaDoorTxC
namespace Go.Proofs.YtopgljkfoogihaaDoor
open Go.RowKit
attribute [local go_sem high] slB_lh slB_l slB_h
/-- what Put and Id answer, whether the transaction may be or not -/
def putAns (t : TTx) : List UInt8 × Nat := if txSane t then (txB t, 0) else ([], 3)
def idAns (t : TTx) : List UInt8 × Nat := if txSane t then (dblB (txB t), 0) else (zeroH, 3)
theorem idAns_length (t : TTx) : (idAns t).1.length = 32 := by
  unfold idAns
  split
  · simp only [dblB_length]
  · simp only [zeroH_length]
theorem gMany_most {α : Type} (f : Nat → Nat → α × Nat × Nat) : ∀ (k a e : Nat), (gMany f k a e).1.length ≤ k
  | 0, _, _ => by simp [gMany]
  | k + 1, a, e => by
    rw [gMany]
    split
    · simp
    · simp only [List.length_cons]
      exact Nat.succ_le_succ (gMany_most f k _ _)
theorem txGet_most (bs : List UInt8) : (txGet bs).1.ins.length ≤ 1000 ∧ (txGet bs).1.outs.length ≤ 1000 := by
  have hc : ∀ a e, (sCount bs a e 1000).1 ≤ 1000 := fun a e => by
    unfold sCount
    split
    · simp
    · exact bounded_fst _ _
  obtain ⟨R, hR⟩ : ∃ R, R = txGet bs := ⟨_, rfl⟩
  rw [← hR]
  unfold txGet at hR
  obtain ⟨x0, a1, e1, h0⟩ : ∃ x a e, sTake bs 0 0 4 = (x, a, e) := ⟨_, _, _, rfl⟩
  obtain ⟨N, a2, e2, h1⟩ : ∃ N a e, sCount bs a1 e1 1000 = (N, a, e) := ⟨_, _, _, rfl⟩
  have z2 := hc a1 e1
  rw [h1] at z2
  obtain ⟨e3, h3⟩ : ∃ e3, e3 = if e2 = 0 ∧ N = 0 then 2 else e2 := ⟨_, rfl⟩
  obtain ⟨ins, a4, e4, h4⟩ : ∃ i a e, gMany (gIn bs) N a2 e3 = (i, a, e) := ⟨_, _, _, rfl⟩
  have z4 := gMany_most (gIn bs) N a2 e3
  rw [h4] at z4
  obtain ⟨M, a5, e5, h5⟩ : ∃ N a e, sCount bs a4 e4 1000 = (N, a, e) := ⟨_, _, _, rfl⟩
  have z5 := hc a4 e4
  rw [h5] at z5
  obtain ⟨outs, a6, e6, h6⟩ : ∃ i a e, gMany (gOut bs) M a5 e5 = (i, a, e) := ⟨_, _, _, rfl⟩
  have z6 := gMany_most (gOut bs) M a5 e5
  rw [h6] at z6
  simp only [h0, h1, ← h3, h4, h5, h6] at hR
  simp only at z2 z4 z5 z6
  rw [hR]
  split
  · simp
  · exact ⟨by simp only; omega, by simp only; omega⟩
theorem PutT (ver lock : Nat) (hv : ver < 4294967296) (hlk : lock < 4294967296) (l : List (TIn × Sl)) (m : List (TOut × Sl)) (A1 A2 : Option Addr) (n1 n2 c1 c2 : Nat) (hn1 : l.length = n1) (hn2 : m.length = n2) (_ : n1 ≤ maxLen) (_ : n2 ≤ maxLen) (w : World) (h1 : RdIns w A1 l) (h2 : RdOuts w A2 m) (ps : List UInt8) (E K : Nat) (hp : putAns (txOf ver l m lock) = (ps, E)) (hK : ps.length = K) :
    Calls Tryd.prog 7 #[.agg #[.int .u32 (ver : Int), .slice A1 n1 c1, .slice A2 n2 c2, .int .u32 (lock : Int)]] w fun e w' => ∃ A c, e = .returned (.tuple #[.slice A K c, .int .i64 (E : Int)]) ∧ Rd w' A (ps.map bv) ∧ Below w.heap.size w w' := by
  unfold putAns at hp
  cases hs : txSane (txOf ver l m lock)
  · rw [hs, if_neg (by simp)] at hp
    obtain ⟨rfl, rfl⟩ := Prod.mk.inj hp
    subst hK
    refine (TPut_bad ver lock l m A1 A2 n1 n2 c1 c2 hn1 hn2 w h1 h2 hs).mono ?_
    rintro e w' ⟨rfl, b⟩
    exact ⟨none, 0, rfl, Rd.nil _ _, b⟩
  · rw [hs, if_pos rfl] at hp
    obtain ⟨rfl, rfl⟩ := Prod.mk.inj hp
    refine (TPut_ok ver lock hv hlk l m A1 A2 n1 n2 c1 c2 hn1 hn2 w h1 h2 hs).mono ?_
    rintro e w' ⟨v, rfl, o, b⟩
    obtain ⟨A, c, rfl, _, _⟩ := o.formN K hK
    exact ⟨A, c, rfl, o.rd, b⟩
theorem PutRT (ver lock : Nat) (hv : ver < 4294967296) (hlk : lock < 4294967296) (l : List (TIn × Sl)) (m : List (TOut × Sl)) (A1 A2 : Option Addr) (n1 n2 c1 c2 : Nat) (hn1 : l.length = n1) (hn2 : m.length = n2) (hm1 : n1 ≤ maxLen) (hm2 : n2 ≤ maxLen) (w : World) (h1 : RdIns w A1 l) (h2 : RdOuts w A2 m) (ps : List UInt8) (E K : Nat) (hp : putAns (txOf ver l m lock) = (ps, E)) (hK : ps.length = K) :
    Calls Tryd.prog 13 #[.agg #[.int .u32 (ver : Int), .slice A1 n1 c1, .slice A2 n2 c2, .int .u32 (lock : Int)]] w fun e w' => ∃ A c, e = .returned (.tuple #[.slice A K c, .int .i64 (E : Int)]) ∧ Rd w' A (ps.map bv) ∧ Below w.heap.size w w' := by
  unfold putAns at hp
  cases hs : txSane (txOf ver l m lock)
  · rw [hs, if_neg (by simp)] at hp
    obtain ⟨rfl, rfl⟩ := Prod.mk.inj hp
    subst hK
    refine (PutR_bad ver lock l m A1 A2 n1 n2 c1 c2 hn1 hn2 w h1 h2 hm1 hm2 hs).mono ?_
    rintro e w' ⟨rfl, b⟩
    exact ⟨none, 0, rfl, Rd.nil _ _, b⟩
  · rw [hs, if_pos rfl] at hp
    obtain ⟨rfl, rfl⟩ := Prod.mk.inj hp
    refine (PutR_ok ver lock hv hlk l m A1 A2 n1 n2 c1 c2 hn1 hn2 w h1 h2 hs).mono ?_
    rintro e w' ⟨v, rfl, o, b⟩
    obtain ⟨A, c, rfl, _, _⟩ := o.formN K hK
    exact ⟨A, c, rfl, o.rd, b⟩
theorem IdT (ver lock : Nat) (hv : ver < 4294967296) (hlk : lock < 4294967296) (l : List (TIn × Sl)) (m : List (TOut × Sl)) (A1 A2 : Option Addr) (n1 n2 c1 c2 : Nat) (hn1 : l.length = n1) (hn2 : m.length = n2) (_ : n1 ≤ maxLen) (_ : n2 ≤ maxLen) (w : World) (h1 : RdIns w A1 l) (h2 : RdOuts w A2 m) (ht : Tabs w) (dd : List UInt8) (E : Nat) (hp : idAns (txOf ver l m lock) = (dd, E)) :
    Calls Tryd.prog 9 #[.agg #[.int .u32 (ver : Int), .slice A1 n1 c1, .slice A2 n2 c2, .int .u32 (lock : Int)]] w fun e w' => e = .returned (.tuple #[.agg (hcs dd), .int .i64 (E : Int)]) ∧ Below w.heap.size w w' := by
  unfold idAns at hp
  cases hs : txSane (txOf ver l m lock)
  · rw [hs, if_neg (by simp)] at hp
    obtain ⟨rfl, rfl⟩ := Prod.mk.inj hp
    exact TId_bad ver lock hv hlk l m A1 A2 n1 n2 c1 c2 hn1 hn2 w h1 h2 ht hs
  · rw [hs, if_pos rfl] at hp
    obtain ⟨rfl, rfl⟩ := Prod.mk.inj hp
    exact TId_ok ver lock hv hlk l m A1 A2 n1 n2 c1 c2 hn1 hn2 w h1 h2 ht hs
theorem IdRT (ver lock : Nat) (hv : ver < 4294967296) (hlk : lock < 4294967296) (l : List (TIn × Sl)) (m : List (TOut × Sl)) (A1 A2 : Option Addr) (n1 n2 c1 c2 : Nat) (hn1 : l.length = n1) (hn2 : m.length = n2) (hm1 : n1 ≤ maxLen) (hm2 : n2 ≤ maxLen) (w : World) (h1 : RdIns w A1 l) (h2 : RdOuts w A2 m) (dd : List UInt8) (E : Nat) (hp : idAns (txOf ver l m lock) = (dd, E)) :
    Calls Tryd.prog 16 #[.agg #[.int .u32 (ver : Int), .slice A1 n1 c1, .slice A2 n2 c2, .int .u32 (lock : Int)]] w fun e w' => e = .returned (.tuple #[.agg (hcs dd), .int .i64 (E : Int)]) ∧ Below w.heap.size w w' := by
  unfold idAns at hp
  cases hs : txSane (txOf ver l m lock)
  · rw [hs, if_neg (by simp)] at hp
    obtain ⟨rfl, rfl⟩ := Prod.mk.inj hp
    exact IdR_bad ver lock hv hlk l m A1 A2 n1 n2 c1 c2 hn1 hn2 w h1 h2 hm1 hm2 hs
  · rw [hs, if_pos rfl] at hp
    obtain ⟨rfl, rfl⟩ := Prod.mk.inj hp
    exact IdR_ok ver lock hv hlk l m A1 A2 n1 n2 c1 c2 hn1 hn2 w h1 h2 hs
set_option maxRecDepth 100000 in
set_option maxHeartbeats 8000000 in
theorem is_few (ver lock : Nat)   (l : List (TIn × Sl)) (m : List (TOut × Sl)) (A1 A2 : Option Addr) (n1 n2 c1 c2 : Nat) (hn1 : l.length = n1) (hn2 : m.length = n2) (hm1 : n1 ≤ maxLen) (hm2 : n2 ≤ maxLen) (Ab : Option Addr) (nb cb : Nat) (As : Option Addr) (ns cs : Nat) (Ah : Option Addr) (nh ch : Nat) (w : World) (h1 : RdIns w A1 l) (h2 : RdOuts w A2 m) (hf : txFew (txOf ver l m lock) = false) :
    Calls Tryd.prog 4 #[.agg #[.int .u32 (ver : Int), .slice A1 n1 c1, .slice A2 n2 c2, .int .u32 (lock : Int)], .slice Ab nb cb, .slice As ns cs, .slice Ah nh ch] w fun e w' => e = .returned (.bool true) ∧ Below w.heap.size w w' := by
  obtain ⟨W, hW⟩ : ∃ W, W = w.alloc (.cells #[.int .u32 (ver : Int), .slice A1 n1 c1, .slice A2 n2 c2, .int .u32 (lock : Int)] 26) := ⟨_, rfl⟩
  obtain ⟨H, hH⟩ : ∃ H, H = w.heap.size := ⟨_, rfl⟩
  have bW : Below w.heap.size w W := by rw [hW]; exact (Below.refl _ _).alloc (Nat.le_refl _) _
  have aW : Av W H 26 [.int .u32 (ver : Int), .slice A1 n1 c1, .slice A2 n2 c2, .int .u32 (lock : Int)] := by rw [hW, hH]; exact heap_alloc_new _ _
  have HA := Lib.hid (awake8 W)
  have HF := fun w' q1 q2 => TFew ver lock l m A1 A2 n1 n2 c1 c2 hn1 hn2 hm1 hm2 w' q1 q2
  rw [hf] at HF
  replace HF := Lib.hid HF
  replace hW := Lib.hid hW
  replace hH := Lib.hid hH
  clear hf hn1 hn2
  go_enter Tryd.func4, Tryd.ntmps4
  go_upto_region 1 with fail
  rw [← hW.out, ← hH.out]
  go_upto_region 2 with (go_at_call 5; refine (HA.out).mono ?_; rintro e w1 ⟨rfl, b1⟩)
  have bw1 : Below w.heap.size w w1 := bW.trans (b1.mono bW.size)
  have a1 := aW.below b1
  have p1 := h1.below bw1
  have p2 := h2.below bw1
  clear HA
  go_wp2_with (first
    | ((with_reducible refine wpList_loadF 26 a1 ?_ _ 4 ?_ Tryd.underlying26 ?_ ?_ ?_); rfl; rfl; rfl; kernel_rfl)
    | (go_at_call 6; refine (HF.out _ p1 p2).mono ?_; rintro e w2 ⟨rfl, b2⟩))
  go_ret
  exact ⟨rfl, bw1.trans (b2.mono bw1.size)⟩
set_option maxRecDepth 100000 in
set_option maxHeartbeats 8000000 in
theorem is_long (ver lock : Nat)   (l : List (TIn × Sl)) (m : List (TOut × Sl)) (A1 A2 : Option Addr) (n1 n2 c1 c2 : Nat) (hn1 : l.length = n1) (hn2 : m.length = n2) (hm1 : n1 ≤ maxLen) (hm2 : n2 ≤ maxLen) (Ab : Option Addr) (nb cb : Nat) (As : Option Addr) (ns cs : Nat) (Ah : Option Addr) (nh ch : Nat) (w : World) (h1 : RdIns w A1 l) (h2 : RdOuts w A2 m) (hf : txFew (txOf ver l m lock) = true) (hh : 3000 < nb ∨ 20 < ns ∨ 20 < nh) :
    Calls Tryd.prog 4 #[.agg #[.int .u32 (ver : Int), .slice A1 n1 c1, .slice A2 n2 c2, .int .u32 (lock : Int)], .slice Ab nb cb, .slice As ns cs, .slice Ah nh ch] w fun e w' => e = .returned (.bool true) ∧ Below w.heap.size w w' := by
  obtain ⟨W, hW⟩ : ∃ W, W = w.alloc (.cells #[.int .u32 (ver : Int), .slice A1 n1 c1, .slice A2 n2 c2, .int .u32 (lock : Int)] 26) := ⟨_, rfl⟩
  obtain ⟨H, hH⟩ : ∃ H, H = w.heap.size := ⟨_, rfl⟩
  have bW : Below w.heap.size w W := by rw [hW]; exact (Below.refl _ _).alloc (Nat.le_refl _) _
  have aW : Av W H 26 [.int .u32 (ver : Int), .slice A1 n1 c1, .slice A2 n2 c2, .int .u32 (lock : Int)] := by rw [hW, hH]; exact heap_alloc_new _ _
  have HA := Lib.hid (awake8 W)
  have HF := fun w' q1 q2 => TFew ver lock l m A1 A2 n1 n2 c1 c2 hn1 hn2 hm1 hm2 w' q1 q2
  rw [hf] at HF
  replace HF := Lib.hid HF
  replace hW := Lib.hid hW
  replace hH := Lib.hid hH
  clear hf hn1 hn2
  by_cases g1 : 3000 < nb
  · have t1 : decide ((3000 : Int) < (nb : Int)) = true := by simp; omega
    clear hh g1
    go_enter Tryd.func4, Tryd.ntmps4
    go_upto_region 1 with fail
    rw [← hW.out, ← hH.out]
    go_upto_region 2 with (go_at_call 5; refine (HA.out).mono ?_; rintro e w1 ⟨rfl, b1⟩)
    have bw1 : Below w.heap.size w w1 := bW.trans (b1.mono bW.size)
    have a1 := aW.below b1
    have p1 := h1.below bw1
    have p2 := h2.below bw1
    clear HA
    go_wp2_with (first
      | ((with_reducible refine wpList_loadF 26 a1 ?_ _ 4 ?_ Tryd.underlying26 ?_ ?_ ?_); rfl; rfl; rfl; kernel_rfl)
      | (go_at_call 6; refine (HF.out _ p1 p2).mono ?_; rintro e w2 ⟨rfl, b2⟩))
    go_ret
    exact ⟨rfl, bw1.trans (b2.mono bw1.size)⟩
  · have t1 : decide ((3000 : Int) < (nb : Int)) = false := by simp; omega
    by_cases g2 : 20 < ns
    · have t2 : decide ((20 : Int) < (ns : Int)) = true := by simp; omega
      clear hh g1 g2
      go_enter Tryd.func4, Tryd.ntmps4
      go_upto_region 1 with fail
      rw [← hW.out, ← hH.out]
      go_upto_region 2 with (go_at_call 5; refine (HA.out).mono ?_; rintro e w1 ⟨rfl, b1⟩)
      have bw1 : Below w.heap.size w w1 := bW.trans (b1.mono bW.size)
      have a1 := aW.below b1
      have p1 := h1.below bw1
      have p2 := h2.below bw1
      clear HA
      go_wp2_with (first
        | ((with_reducible refine wpList_loadF 26 a1 ?_ _ 4 ?_ Tryd.underlying26 ?_ ?_ ?_); rfl; rfl; rfl; kernel_rfl)
        | (go_at_call 6; refine (HF.out _ p1 p2).mono ?_; rintro e w2 ⟨rfl, b2⟩))
      go_ret
      exact ⟨rfl, bw1.trans (b2.mono bw1.size)⟩
    · have t2 : decide ((20 : Int) < (ns : Int)) = false := by simp; omega
      have t3 : decide ((20 : Int) < (nh : Int)) = true := by simp; omega
      clear hh g1 g2
      go_enter Tryd.func4, Tryd.ntmps4
      go_upto_region 1 with fail
      rw [← hW.out, ← hH.out]
      go_upto_region 2 with (go_at_call 5; refine (HA.out).mono ?_; rintro e w1 ⟨rfl, b1⟩)
      have bw1 : Below w.heap.size w w1 := bW.trans (b1.mono bW.size)
      have a1 := aW.below b1
      have p1 := h1.below bw1
      have p2 := h2.below bw1
      clear HA
      go_wp2_with (first
        | ((with_reducible refine wpList_loadF 26 a1 ?_ _ 4 ?_ Tryd.underlying26 ?_ ?_ ?_); rfl; rfl; rfl; kernel_rfl)
        | (go_at_call 6; refine (HF.out _ p1 p2).mono ?_; rintro e w2 ⟨rfl, b2⟩))
      go_ret
      exact ⟨rfl, bw1.trans (b2.mono bw1.size)⟩
set_option maxRecDepth 100000 in
set_option maxHeartbeats 8000000 in
theorem is_go (ver lock : Nat) (hv : ver < 4294967296) (hlk : lock < 4294967296) (l : List (TIn × Sl)) (m : List (TOut × Sl)) (A1 A2 : Option Addr) (n1 n2 c1 c2 : Nat) (hn1 : l.length = n1) (hn2 : m.length = n2) (hm1 : n1 ≤ maxLen) (hm2 : n2 ≤ maxLen) (bs : List UInt8) (Ab : Option Addr) (nb cb : Nat) (hnb : bs.length = nb) (hbc : nb ≤ cb) (S : List (List UInt8 × Sl)) (As : Option Addr) (ns cs : Nat) (hns : S.length = ns) (Hs : List (List UInt8)) (Ah : Option Addr) (nh ch : Nat) (hnh : Hs.length = nh) (w : World) (h1 : RdIns w A1 l) (h2 : RdOuts w A2 m) (rb : Rd w Ab (bs.map bv)) (rs : RdBss w As S) (rh : RdHs w Ah Hs) (ht : Tabs w) (hf : txFew (txOf ver l m lock) = true) (hnb3 : nb ≤ 3000) (hns3 : ns ≤ 20) (hnh3 : nh ≤ 20) :
    Calls Tryd.prog 4 #[.agg #[.int .u32 (ver : Int), .slice A1 n1 c1, .slice A2 n2 c2, .int .u32 (lock : Int)], .slice Ab nb cb, .slice As ns cs, .slice Ah nh ch] w fun e w' => e = .returned (.bool true) ∧ Below w.heap.size w w' := by
  obtain ⟨W, hW⟩ : ∃ W, W = w.alloc (.cells #[.int .u32 (ver : Int), .slice A1 n1 c1, .slice A2 n2 c2, .int .u32 (lock : Int)] 26) := ⟨_, rfl⟩
  obtain ⟨H, hH⟩ : ∃ H, H = w.heap.size := ⟨_, rfl⟩
  have bW : Below w.heap.size w W := by rw [hW]; exact (Below.refl _ _).alloc (Nat.le_refl _) _
  have aW : Av W H 26 [.int .u32 (ver : Int), .slice A1 n1 c1, .slice A2 n2 c2, .int .u32 (lock : Int)] := by rw [hW, hH]; exact heap_alloc_new _ _
  have HA := Lib.hid (awake8 W)
  have HF := fun w' q1 q2 => TFew ver lock l m A1 A2 n1 n2 c1 c2 hn1 hn2 hm1 hm2 w' q1 q2
  rw [hf] at HF
  obtain ⟨_, _, f1, f2⟩ := (txFew_iff _).1 hf
  simp only [txOf, List.length_map, hn1, hn2] at f1 f2
  have HO := fun w' q1 q2 => TOurs ver lock hv hlk l m A1 A2 n1 n2 c1 c2 hn1 hn2 (by omega) (by omega) w' q1 q2
  obtain ⟨sn, hsn⟩ : ∃ b, b = txSane (txOf ver l m lock) := ⟨_, rfl⟩
  have HS := fun B1 B2 e1 e2 w' q1 q2 => TSane ver lock l m B1 B2 n1 n2 e1 e2 hn1 hn2 w' q1 q2
  have HT := fun w' q1 q2 => TSaneR ver lock l m A1 A2 n1 n2 c1 c2 hn1 hn2 hm1 hm2 w' q1 q2
  rw [← hsn] at HS HT
  obtain ⟨ps, E, hpe⟩ : ∃ ps E, putAns (txOf ver l m lock) = (ps, E) := ⟨_, _, rfl⟩
  obtain ⟨K, hK⟩ : ∃ K, ps.length = K := ⟨_, rfl⟩
  have HP := fun B1 B2 e1 e2 w' q1 q2 => PutT ver lock hv hlk l m B1 B2 n1 n2 e1 e2 hn1 hn2 hm1 hm2 w' q1 q2 ps E K hpe hK
  have HQ := fun w' q1 q2 => PutRT ver lock hv hlk l m A1 A2 n1 n2 c1 c2 hn1 hn2 hm1 hm2 w' q1 q2 ps E K hpe hK
  obtain ⟨dd, F, hde⟩ : ∃ dd F, idAns (txOf ver l m lock) = (dd, F) := ⟨_, _, rfl⟩
  have hdl : dd.length = 32 := by have := idAns_length (txOf ver l m lock); rw [hde] at this; exact this
  have hd32 : (dd.map bv).length = 32 := by rw [List.length_map, hdl]
  have HI := fun B1 B2 e1 e2 w' q1 q2 t => IdT ver lock hv hlk l m B1 B2 n1 n2 e1 e2 hn1 hn2 hm1 hm2 w' q1 q2 t dd F hde
  have HJ := fun w' q1 q2 => IdRT ver lock hv hlk l m A1 A2 n1 n2 c1 c2 hn1 hn2 hm1 hm2 w' q1 q2 dd F hde
  obtain ⟨tb, htb⟩ : ∃ b, txT (txOf ver l m lock) (S.map (·.1)) Hs = b := ⟨_, rfl⟩
  have HU := fun B1 B2 e1 e2 w' q1 q2 q3 q4 => TTouch ver lock l m B1 B2 n1 n2 e1 e2 hn1 hn2 (by omega) (by omega) S As ns cs hns (by omega) Hs Ah nh ch hnh (by omega) w' q1 q2 q3 q4 tb htb
  have HV := fun w' q1 q2 q3 q4 => TouchR ver lock l m A1 A2 n1 n2 c1 c2 hn1 hn2 (by omega) (by omega) S As ns cs hns (by omega) Hs Ah nh ch hnh (by omega) w' q1 q2 q3 q4 tb htb
  obtain ⟨T, gn, ge, hg⟩ : ∃ T n e, txGet bs = (T, n, e) := ⟨_, _, _, rfl⟩
  have hgm := txGet_most bs
  have HG := fun w' q => TGet bs Ab nb cb hnb hbc (by omega) w' q
  have HGR := fun w' q => GetR bs Ab nb cb hnb hbc (by omega) w' q
  rw [hg] at HG HGR hgm
  obtain ⟨gv, gi, go, gk⟩ := T
  obtain ⟨k1, hk1⟩ : ∃ k, k = gi.length := ⟨_, rfl⟩
  obtain ⟨k2, hk2⟩ : ∃ k, k = go.length := ⟨_, rfl⟩
  have EQS := fun x y => strEq1 (a := ps) (b := ps) x y
  rw [beq_self_eq_true] at EQS
  have EQD := fun x y => eqlPg dd dd hdl hdl x y
  rw [beq_self_eq_true] at EQD
  simp only at hgm HG HGR
  rw [← hk1, ← hk2] at hgm
  replace HF := Lib.hid HF
  replace HO := Lib.hid HO
  replace HS := Lib.hid HS
  replace HT := Lib.hid HT
  replace HP := Lib.hid HP
  replace HQ := Lib.hid HQ
  replace HI := Lib.hid HI
  replace HJ := Lib.hid HJ
  replace HU := Lib.hid HU
  replace HV := Lib.hid HV
  replace HG := Lib.hid HG
  replace HGR := Lib.hid HGR
  replace EQS := Lib.hid EQS
  replace EQD := Lib.hid EQD
  replace hK := Lib.hid hK
  replace hd32 := Lib.hid hd32
  replace hdl := Lib.hid hdl
  replace hk1 := Lib.hid hk1
  replace hk2 := Lib.hid hk2
  replace hgm := Lib.hid hgm
  replace hW := Lib.hid hW
  replace hH := Lib.hid hH
  replace hn1 := Lib.hid hn1
  replace hn2 := Lib.hid hn2
  clear hsn hpe hde htb hg hf hns hnh hnb
  have t1 : decide ((3000 : Int) < (nb : Int)) = false := by simp; omega
  have t2 : decide ((20 : Int) < (ns : Int)) = false := by simp; omega
  have t3 : decide ((20 : Int) < (nh : Int)) = false := by simp; omega
  go_enter Tryd.func4, Tryd.ntmps4
  go_upto_region 1 with fail
  rw [← hW.out, ← hH.out]
  go_upto_region 2 with (go_at_call 5; refine (HA.out).mono ?_; rintro e w1 ⟨rfl, b1⟩)
  have bw1 : Below w.heap.size w w1 := bW.trans (b1.mono bW.size)
  have a1 := aW.below b1
  have p1 := h1.below bw1
  have p2 := h2.below bw1
  clear HA
  go_upto_region 4 with (first
    | ((with_reducible refine wpList_loadF 26 a1 ?_ _ 4 ?_ Tryd.underlying26 ?_ ?_ ?_); rfl; rfl; rfl; kernel_rfl)
    | (go_at_call 6; refine (HF.out _ p1 p2).mono ?_; rintro e w2 ⟨rfl, b2⟩))
  have bw2 := bw1.trans (b2.mono bw1.size)
  have a2 := a1.below b2
  have i2 := h1.below bw2
  have o2 := h2.below bw2
  clear a1 p1 p2 HF b1 bw1
  go_upto_region 5 with (first
    | ((with_reducible refine wpList_loadF 26 a2 ?_ _ 4 ?_ Tryd.underlying26 ?_ ?_ ?_); rfl; rfl; rfl; kernel_rfl)
    | (go_at_call 8; refine (HO.out _ i2 o2).mono ?_; rintro e w3 ⟨D1, D2, e1, e2, rfl, _, _, iX, oX, b3⟩))
  obtain ⟨w4, hw4⟩ : ∃ w4, w4 = w3.alloc (.cells #[.int .u32 (ver : Int), .slice D1 n1 e1, .slice D2 n2 e2, .int .u32 (lock : Int)] 36) := ⟨_, rfl⟩
  rw [← hw4]
  have aX : Av w4 w3.heap.size 36 [.int .u32 (ver : Int), .slice D1 n1 e1, .slice D2 n2 e2, .int .u32 (lock : Int)] := by rw [hw4]; exact heap_alloc_new _ _
  have b4 : Below w3.heap.size w3 w4 := by rw [hw4]; exact (Below.refl _ _).alloc (Nat.le_refl _) _
  obtain ⟨X, hX⟩ : ∃ X, X = w3.heap.size := ⟨_, rfl⟩
  rw [← hX] at aX ⊢
  have bw3 := bw2.trans (b3.mono bw2.size)
  have bw4 := bw3.trans (b4.mono bw3.size)
  have a4 := (a2.below b3).below b4
  replace iX := iX.below b4
  replace oX := oX.below b4
  clear a2 i2 o2 hw4 hX b2 bw2
  go_upto_region 6 with (first
    | ((with_reducible refine wpList_loadF 36 aX ?_ _ 4 ?_ Tryd.underlying36 ?_ ?_ ?_); rfl; rfl; rfl; kernel_rfl)
    | (go_at_call 7; refine (HP.out _ _ _ _ _ iX oX).mono ?_; rintro e w5 ⟨Ap, cp, rfl, rp, b5⟩))
  have bw5 := bw4.trans (b5.mono bw4.size)
  have a5 := a4.below b5
  have i5 := h1.below bw5
  have o5 := h2.below bw5
  clear a4 HP b3 bw3
  go_upto_region 7 with (first
    | ((with_reducible refine wpList_loadF 26 a5 ?_ _ 4 ?_ Tryd.underlying26 ?_ ?_ ?_); rfl; rfl; rfl; kernel_rfl)
    | (go_at_call 13; refine (HQ.out _ i5 o5).mono ?_; rintro e w6 ⟨Aq, cq, rfl, rq, b6⟩))
  have bw6 := bw5.trans (b6.mono bw5.size)
  have a6 := a5.below b6
  replace rp := rp.below b6
  replace aX := (aX.below b5).below b6
  replace iX := (iX.below b5).below b6
  replace oX := (oX.below b5).below b6
  have rb6 := rb.below bw6
  clear a5 i5 o5 HQ b4 bw4 b5 bw5
  go_upto_region 8 with (go_at_call 14; refine (HG.out _ rb6).mono ?_; rintro e w7 ⟨⟨v7, rfl, G1, G2, n1', n2', x1, x2, gl, gm, rfl, q1, q2, _, _, iG, oG, j1, j2, gv1, gk1⟩, b7⟩; simp only at j1 j2 gv1 gk1; (obtain rfl : k1 = n1' := by rw [hk1.out, ← j1, List.length_map, q1]); (obtain rfl : k2 = n2' := by rw [hk2.out, ← j2, List.length_map, q2]))
  obtain ⟨w8, hw8⟩ : ∃ w8, w8 = w7.alloc (.cells #[.int .u32 (gv : Int), .slice G1 k1 x1, .slice G2 k2 x2, .int .u32 (gk : Int)] 36) := ⟨_, rfl⟩
  rw [← hw8]
  have aG : Av w8 w7.heap.size 36 [.int .u32 (gv : Int), .slice G1 k1 x1, .slice G2 k2 x2, .int .u32 (gk : Int)] := by rw [hw8]; exact heap_alloc_new _ _
  have b8 : Below w7.heap.size w7 w8 := by rw [hw8]; exact (Below.refl _ _).alloc (Nat.le_refl _) _
  obtain ⟨X7, hX7⟩ : ∃ X, X = w7.heap.size := ⟨_, rfl⟩
  rw [← hX7] at aG ⊢
  have bw7 := bw6.trans (b7.mono bw6.size)
  have bw8 := bw7.trans (b8.mono bw7.size)
  have a8 := (a6.below b7).below b8
  replace aX := (aX.below b7).below b8
  replace iX := (iX.below b7).below b8
  replace oX := (oX.below b7).below b8
  replace rp := (rp.below b7).below b8
  replace rq := (rq.below b7).below b8
  replace iG := iG.below b8
  replace oG := oG.below b8
  have rb8 := rb.below bw8
  replace q1 := Lib.hid q1
  replace q2 := Lib.hid q2
  replace j1 := Lib.hid j1
  replace j2 := Lib.hid j2
  clear a6 rb6 HG hw8 hX7 b6 bw6
  go_upto_region 9 with (go_at_call 15; refine (HGR.out _ rb8).mono ?_; rintro e w9 ⟨⟨v9, rfl, J1, J2, n1'', n2'', y1, y2, hl, hm, rfl, q3, q4, _, _, iH, oH, j3, j4, _, _⟩, b9⟩; simp only at j3 j4; (obtain rfl : k1 = n1'' := by rw [hk1.out, ← j3, List.length_map, q3]); (obtain rfl : k2 = n2'' := by rw [hk2.out, ← j4, List.length_map, q4]))
  obtain ⟨w10, hw10⟩ : ∃ w10, w10 = w9.alloc (.cells #[.int .u32 (gv : Int), .slice J1 k1 y1, .slice J2 k2 y2, .int .u32 (gk : Int)] 26) := ⟨_, rfl⟩
  rw [← hw10]
  have aH : Av w10 w9.heap.size 26 [.int .u32 (gv : Int), .slice J1 k1 y1, .slice J2 k2 y2, .int .u32 (gk : Int)] := by rw [hw10]; exact heap_alloc_new _ _
  have b10 : Below w9.heap.size w9 w10 := by rw [hw10]; exact (Below.refl _ _).alloc (Nat.le_refl _) _
  obtain ⟨X9, hX9⟩ : ∃ X, X = w9.heap.size := ⟨_, rfl⟩
  rw [← hX9] at aH ⊢
  have bw9 := bw8.trans (b9.mono bw8.size)
  have bw10 := bw9.trans (b10.mono bw9.size)
  have a10 := (a8.below b9).below b10
  replace aX := (aX.below b9).below b10
  replace aG := (aG.below b9).below b10
  replace iX := (iX.below b9).below b10
  replace oX := (oX.below b9).below b10
  replace iG := (iG.below b9).below b10
  replace oG := (oG.below b9).below b10
  replace rp := (rp.below b9).below b10
  replace rq := (rq.below b9).below b10
  replace iH := iH.below b10
  replace oH := oH.below b10
  have ht10 := ht.below bw10
  have HTh := fun w' p q => TTheirs gv gk gv1 gk1 gl gm G1 G2 k1 k2 x1 x2 q1.out q2.out hgm.out.1 hgm.out.2 w' p q
  have HM := fun D1 D2 e1 e2 w' p q r s => TSame_all gv gk gv gk gl hl gm hm D1 D2 J1 J2 k1 k2 e1 e2 k1 k2 y1 y2 q1.out q2.out q3 q4 (by have := hgm.out.1; omega) (by have := hgm.out.2; omega) w' p q r s true (by unfold txOf; rw [j1.out, j2.out, j3, j4]; simp)
  replace HTh := Lib.hid HTh
  replace HM := Lib.hid HM
  clear a8 rb8 HGR hw10 hX9 b7 bw7 b8 bw8 q3 q4 j3 j4 q1 q2 j1 j2
  go_upto_region 10 with (first
    | ((with_reducible refine wpList_loadF 36 aX ?_ _ 4 ?_ Tryd.underlying36 ?_ ?_ ?_); rfl; rfl; rfl; kernel_rfl)
    | (go_at_call 9; refine (HI.out _ _ _ _ _ iX oX ht10).mono ?_; rintro e w11 ⟨rfl, b11⟩)
    | ((with_reducible refine wpList_storeF 39 ((Below.refl w11.heap.size w11).alloc (Nat.le_refl _) _) (heap_alloc_new _ _) (Nat.le_refl _) (dd.map bv) ?_ ?_ 32 ?_ ?_ ?_ ?_ ?_); rfl; rfl; exact hd32.out; kernel_rfl; rfl; (simp [Value.oneCell']); intro w12 aI b12 k12 z12; clear k12; replace z12 := Lib.hid z12))
  obtain ⟨X11, hX11⟩ : ∃ X, X = w11.heap.size := ⟨_, rfl⟩
  rw [← hX11] at aI ⊢
  have bw11 := bw10.trans (b11.mono bw10.size)
  have bw12 := bw11.trans (b12.mono bw11.size)
  have a12 := (a10.below b11).below b12
  replace aX := (aX.below b11).below b12
  replace aG := (aG.below b11).below b12
  replace aH := (aH.below b11).below b12
  replace iX := (iX.below b11).below b12
  replace oX := (oX.below b11).below b12
  replace iG := (iG.below b11).below b12
  replace oG := (oG.below b11).below b12
  replace iH := (iH.below b11).below b12
  replace oH := (oH.below b11).below b12
  replace rp := (rp.below b11).below b12
  replace rq := (rq.below b11).below b12
  have i12 := h1.below bw12
  have o12 := h2.below bw12
  clear a10 ht10 HI hX11 z12 b9 bw9 b10 bw10
  go_upto_region 11 with (first
    | ((with_reducible refine wpList_loadF 26 a12 ?_ _ 4 ?_ Tryd.underlying26 ?_ ?_ ?_); rfl; rfl; rfl; kernel_rfl)
    | (go_at_call 16; refine (HJ.out _ i12 o12).mono ?_; rintro e w13 ⟨rfl, b13⟩)
    | ((with_reducible refine wpList_storeF 39 ((Below.refl w13.heap.size w13).alloc (Nat.le_refl _) _) (heap_alloc_new _ _) (Nat.le_refl _) (dd.map bv) ?_ ?_ 32 ?_ ?_ ?_ ?_ ?_); rfl; rfl; exact hd32.out; kernel_rfl; rfl; (simp [Value.oneCell']); intro w14 aJ b14 k14 z14; clear k14; replace z14 := Lib.hid z14))
  obtain ⟨X13, hX13⟩ : ∃ X, X = w13.heap.size := ⟨_, rfl⟩
  rw [← hX13] at aJ ⊢
  have bw13 := bw12.trans (b13.mono bw12.size)
  have bw14 := bw13.trans (b14.mono bw13.size)
  have aR := (a12.below b13).below b14
  replace aX := (aX.below b13).below b14
  replace aG := (aG.below b13).below b14
  replace aH := (aH.below b13).below b14
  replace aI := (aI.below b13).below b14
  replace iX := (iX.below b13).below b14
  replace oX := (oX.below b13).below b14
  replace iG := (iG.below b13).below b14
  replace oG := (oG.below b13).below b14
  replace iH := (iH.below b13).below b14
  replace oH := (oH.below b13).below b14
  replace rp := (rp.below b13).below b14
  replace rq := (rq.below b13).below b14
  have iR := h1.below bw14
  have oR := h2.below bw14
  have sX := rs.below bw14
  have zX := rh.below bw14
  have HS := Lib.hid (HS.out D1 D2 e1 e2)
  have HU := Lib.hid (HU.out D1 D2 e1 e2)
  clear a12 HJ hX13 z14 b11 bw11 b12 bw12
  refine wp_region_relT 57 [(22, TxW gv gk k1 k2 gl gm)] Ext (by kernel_rfl) (by kernel_rfl) (by kernel_rfl) (by kernel_rfl) (by kernel_rfl) Ext.refl Ext.trans (by intro p hp v w w' hR; simp only [List.mem_singleton] at hp; subst hp; exact TxW.mono hR) ?_
  refine relMove Ext.refl rfl rfl rfl rfl _ (.inl rfl) (by conv => lhs; whnf) (by simp only [List.set_cons_succ, List.set_cons_zero]; rfl) ?_
  refine relMove Ext.refl rfl rfl rfl rfl _ (.inl rfl) (by conv => lhs; whnf) (by simp only [List.set_cons_succ, List.set_cons_zero]; rfl) ?_
  refine relPure Ext.refl rfl rfl rfl rfl (c := .agg ([.int .u32 (ver : Int), .slice D1 n1 e1, .slice D2 n2 e2, .int .u32 (lock : Int)]).toArray) (fun w hw => exec_loadAv (aX.below hw.drew) _ _ rfl rfl _ 4 rfl Tryd.underlying36 rfl (by kernel_rfl)) (by simp only [List.set_cons_succ, List.set_cons_zero]; rfl) ?_
  refine relCall1 rfl rfl rfl rfl (c := .bool sn) 12 #[.agg #[.int .u32 (ver : Int), .slice D1 n1 e1, .slice D2 n2 e2, .int .u32 (lock : Int)]] (fun w => by go_simp) (fun w hw => (HS.out w (iX.below hw.drew) (oX.below hw.drew)).mono ?_) (by simp only [List.set_cons_succ, List.set_cons_zero]; rfl) ?_
  · rintro e w' ⟨rfl, b⟩
    exact ⟨rfl, b⟩
  refine relPure Ext.refl rfl rfl rfl rfl (c := .agg ([.int .u32 (ver : Int), .slice A1 n1 c1, .slice A2 n2 c2, .int .u32 (lock : Int)]).toArray) (fun w hw => exec_loadAv (aR.below hw.drew) _ _ rfl rfl _ 4 rfl Tryd.underlying26 rfl (by kernel_rfl)) (by simp only [List.set_cons_succ, List.set_cons_zero]; rfl) ?_
  refine relCall1 rfl rfl rfl rfl (c := .bool sn) 17 #[.agg #[.int .u32 (ver : Int), .slice A1 n1 c1, .slice A2 n2 c2, .int .u32 (lock : Int)]] (fun w => by go_simp) (fun w hw => (HT.out w (iR.below hw.drew) (oR.below hw.drew)).mono ?_) (by simp only [List.set_cons_succ, List.set_cons_zero]; rfl) ?_
  · rintro e w' ⟨rfl, b⟩
    exact ⟨rfl, b⟩
  refine relPure Ext.refl rfl rfl rfl rfl (c := .bool true) (fun w _ => by cases sn <;> (go_simp; first | done | rfl)) (by simp only [List.set_cons_succ, List.set_cons_zero]; rfl) ?_
  refine relPick Ext.refl rfl rfl rfl rfl _ _ _ rfl rfl (by conv => lhs; whnf) (by simp only [List.set_cons_succ, List.set_cons_zero]; rfl) ?_
  refine relMove Ext.refl rfl rfl rfl rfl _ (.inl rfl) (by conv => lhs; whnf) (by simp only [List.set_cons_succ, List.set_cons_zero]; rfl) ?_
  refine relMove Ext.refl rfl rfl rfl rfl _ (.inl rfl) (by conv => lhs; whnf) (by simp only [List.set_cons_succ, List.set_cons_zero]; rfl) ?_
  refine relStr rfl rfl rfl rfl _ rfl (by conv => lhs; whnf) ps hK.out (fun w hw => rp.below hw.drew) (by simp only [List.set_cons_succ, List.set_cons_zero]; rfl) ?_
  refine relMove Ext.refl rfl rfl rfl rfl _ (.inl rfl) (by conv => lhs; whnf) (by simp only [List.set_cons_succ, List.set_cons_zero]; rfl) ?_
  refine relStr rfl rfl rfl rfl _ rfl (by conv => lhs; whnf) ps hK.out (fun w hw => rq.below hw.drew) (by simp only [List.set_cons_succ, List.set_cons_zero]; rfl) ?_
  refine relBin Ext.refl rfl rfl rfl rfl _ _ _ _ _ rfl (by conv => lhs; whnf) (by conv => lhs; whnf) (c := .bool true) (fun w => EQS.out _ _ w) (by simp only [List.set_cons_succ, List.set_cons_zero]; rfl) ?_
  refine relPick Ext.refl rfl rfl rfl rfl _ _ _ rfl rfl (by conv => lhs; whnf) (by simp only [List.set_cons_succ, List.set_cons_zero]; rfl) ?_
  refine relMove Ext.refl rfl rfl rfl rfl _ (.inl rfl) (by conv => lhs; whnf) (by simp only [List.set_cons_succ, List.set_cons_zero]; rfl) ?_
  refine relMove Ext.refl rfl rfl rfl rfl _ (.inl rfl) (by conv => lhs; whnf) (by simp only [List.set_cons_succ, List.set_cons_zero]; rfl) ?_
  refine relMove Ext.refl rfl rfl rfl rfl _ (.inl rfl) (by conv => lhs; whnf) (by simp only [List.set_cons_succ, List.set_cons_zero]; rfl) ?_
  refine relPure Ext.refl rfl rfl rfl rfl (c := .bool true) (fun w _ => by go_simp; first | done | rfl) (by simp only [List.set_cons_succ, List.set_cons_zero]; rfl) ?_
  refine relPick Ext.refl rfl rfl rfl rfl _ _ _ rfl rfl (by conv => lhs; whnf) (by simp only [List.set_cons_succ, List.set_cons_zero]; rfl) ?_
  refine relMove Ext.refl rfl rfl rfl rfl _ (.inl rfl) (by conv => lhs; whnf) (by simp only [List.set_cons_succ, List.set_cons_zero]; rfl) ?_
  refine relPure Ext.refl rfl rfl rfl rfl (c := .agg ([.int .u32 (gv : Int), .slice G1 k1 x1, .slice G2 k2 x2, .int .u32 (gk : Int)]).toArray) (fun w hw => exec_loadAv (aG.below hw.drew) _ _ rfl rfl _ 4 rfl Tryd.underlying36 rfl (by kernel_rfl)) (by simp only [List.set_cons_succ, List.set_cons_zero]; rfl) ?_
  refine relCall _ rfl rfl rfl 18 #[.agg #[.int .u32 (gv : Int), .slice G1 k1 x1, .slice G2 k2 x2, .int .u32 (gk : Int)]] (fun w => by go_simp) (fun w hw => (HTh.out w (iG.below hw.drew) (oG.below hw.drew)).mono ?_) ?_
  · rintro e w' ⟨D1, D2, e1, e2, rfl, _, _, s1, s2, hb⟩
    exact ⟨_, rfl, hb, D1, D2, e1, e2, rfl, s1, s2⟩
  refine relPure Ext.refl rfl rfl rfl rfl (c := .agg ([.int .u32 (gv : Int), .slice J1 k1 y1, .slice J2 k2 y2, .int .u32 (gk : Int)]).toArray) (fun w hw => exec_loadAv (aH.below hw.drew) _ _ rfl rfl _ 4 rfl Tryd.underlying26 rfl (by kernel_rfl)) (by simp only [List.set_cons_succ, List.set_cons_zero]; rfl) ?_
  refine relOn rfl rfl (c := .bool true) (fun w hw => fill_take rfl rfl fun u hu => fill_none rfl (relOp_yes rfl ?_)) (by simp only [List.set_cons_succ, List.set_cons_zero]; rfl) ?_
  · obtain ⟨D1, D2, e1, e2, rfl, s1, s2⟩ := hu
    refine relRes_enterT 11 #[.agg #[.int .u32 (gv : Int), .slice D1 k1 e1, .slice D2 k2 e2, .int .u32 (gk : Int)], .agg #[.int .u32 (gv : Int), .slice J1 k1 y1, .slice J2 k2 y2, .int .u32 (gk : Int)]] (by go_simp) ((HM.out _ _ _ _ w s1 s2 (iH.below hw.drew) (oH.below hw.drew)).mono ?_)
    rintro e w' ⟨rfl, hb⟩
    exact ⟨rfl, hb⟩
  refine relPick Ext.refl rfl rfl rfl rfl _ _ _ rfl rfl (by conv => lhs; whnf) (by simp only [List.set_cons_succ, List.set_cons_zero]; rfl) ?_
  refine relMove Ext.refl rfl rfl rfl rfl _ (.inl rfl) (by conv => lhs; whnf) (by simp only [List.set_cons_succ, List.set_cons_zero]; rfl) ?_
  refine relMove Ext.refl rfl rfl rfl rfl _ (.inl rfl) (by conv => lhs; whnf) (by simp only [List.set_cons_succ, List.set_cons_zero]; rfl) ?_
  refine relMove Ext.refl rfl rfl rfl rfl _ (.inl rfl) (by conv => lhs; whnf) (by simp only [List.set_cons_succ, List.set_cons_zero]; rfl) ?_
  refine relPure Ext.refl rfl rfl rfl rfl (c := .bool true) (fun w _ => by go_simp; first | done | rfl) (by simp only [List.set_cons_succ, List.set_cons_zero]; rfl) ?_
  refine relPick Ext.refl rfl rfl rfl rfl _ _ _ rfl rfl (by conv => lhs; whnf) (by simp only [List.set_cons_succ, List.set_cons_zero]; rfl) ?_
  refine relMove Ext.refl rfl rfl rfl rfl _ (.inl rfl) (by conv => lhs; whnf) (by simp only [List.set_cons_succ, List.set_cons_zero]; rfl) ?_
  refine relMove Ext.refl rfl rfl rfl rfl _ (.inl rfl) (by conv => lhs; whnf) (by simp only [List.set_cons_succ, List.set_cons_zero]; rfl) ?_
  refine relMove Ext.refl rfl rfl rfl rfl _ (.inl rfl) (by conv => lhs; whnf) (by simp only [List.set_cons_succ, List.set_cons_zero]; rfl) ?_
  refine relPure Ext.refl rfl rfl rfl rfl (c := .bool true) (fun w _ => by go_simp; first | done | rfl) (by simp only [List.set_cons_succ, List.set_cons_zero]; rfl) ?_
  refine relPick Ext.refl rfl rfl rfl rfl _ _ _ rfl rfl (by conv => lhs; whnf) (by simp only [List.set_cons_succ, List.set_cons_zero]; rfl) ?_
  refine relMove Ext.refl rfl rfl rfl rfl _ (.inl rfl) (by conv => lhs; whnf) (by simp only [List.set_cons_succ, List.set_cons_zero]; rfl) ?_
  refine relPure Ext.refl rfl rfl rfl rfl (c := .agg (dd.map bv).toArray) (fun w hw => exec_loadAv (aI.below hw.drew) _ _ rfl rfl _ 32 hd32.out Tryd.underlying39 rfl (by kernel_rfl)) (by simp only [List.set_cons_succ, List.set_cons_zero]; rfl) ?_
  refine relPure Ext.refl rfl rfl rfl rfl (c := .agg (dd.map bv).toArray) (fun w hw => exec_loadAv (aJ.below hw.drew) _ _ rfl rfl _ 32 hd32.out Tryd.underlying39 rfl (by kernel_rfl)) (by simp only [List.set_cons_succ, List.set_cons_zero]; rfl) ?_
  refine relBin Ext.refl rfl rfl rfl rfl _ _ _ _ _ rfl (by conv => lhs; whnf) (by conv => lhs; whnf) (c := .bool true) (fun w => EQD.out _ _ w) (by simp only [List.set_cons_succ, List.set_cons_zero]; rfl) ?_
  refine relPick Ext.refl rfl rfl rfl rfl _ _ _ rfl rfl (by conv => lhs; whnf) (by simp only [List.set_cons_succ, List.set_cons_zero]; rfl) ?_
  refine relMove Ext.refl rfl rfl rfl rfl _ (.inl rfl) (by conv => lhs; whnf) (by simp only [List.set_cons_succ, List.set_cons_zero]; rfl) ?_
  refine relMove Ext.refl rfl rfl rfl rfl _ (.inl rfl) (by conv => lhs; whnf) (by simp only [List.set_cons_succ, List.set_cons_zero]; rfl) ?_
  refine relMove Ext.refl rfl rfl rfl rfl _ (.inl rfl) (by conv => lhs; whnf) (by simp only [List.set_cons_succ, List.set_cons_zero]; rfl) ?_
  refine relPure Ext.refl rfl rfl rfl rfl (c := .bool true) (fun w _ => by go_simp; first | done | rfl) (by simp only [List.set_cons_succ, List.set_cons_zero]; rfl) ?_
  refine relPick Ext.refl rfl rfl rfl rfl _ _ _ rfl rfl (by conv => lhs; whnf) (by simp only [List.set_cons_succ, List.set_cons_zero]; rfl) ?_
  refine relMove Ext.refl rfl rfl rfl rfl _ (.inl rfl) (by conv => lhs; whnf) (by simp only [List.set_cons_succ, List.set_cons_zero]; rfl) ?_
  refine relPure Ext.refl rfl rfl rfl rfl (c := .agg ([.int .u32 (ver : Int), .slice D1 n1 e1, .slice D2 n2 e2, .int .u32 (lock : Int)]).toArray) (fun w hw => exec_loadAv (aX.below hw.drew) _ _ rfl rfl _ 4 rfl Tryd.underlying36 rfl (by kernel_rfl)) (by simp only [List.set_cons_succ, List.set_cons_zero]; rfl) ?_
  refine relMove Ext.refl rfl rfl rfl rfl _ (.inl rfl) (by conv => lhs; whnf) (by simp only [List.set_cons_succ, List.set_cons_zero]; rfl) ?_
  refine relMove Ext.refl rfl rfl rfl rfl _ (.inl rfl) (by conv => lhs; whnf) (by simp only [List.set_cons_succ, List.set_cons_zero]; rfl) ?_
  refine relCall1 rfl rfl rfl rfl (c := .bool tb) 19 #[.agg #[.int .u32 (ver : Int), .slice D1 n1 e1, .slice D2 n2 e2, .int .u32 (lock : Int)], .slice As ns cs, .slice Ah nh ch] (fun w => by go_simp) (fun w hw => (HU.out w (iX.below hw.drew) (oX.below hw.drew) (sX.below hw.drew) (zX.below hw.drew)).mono ?_) (by simp only [List.set_cons_succ, List.set_cons_zero]; rfl) ?_
  · rintro e w' ⟨rfl, b⟩
    exact ⟨rfl, b⟩
  refine relPure Ext.refl rfl rfl rfl rfl (c := .agg ([.int .u32 (ver : Int), .slice A1 n1 c1, .slice A2 n2 c2, .int .u32 (lock : Int)]).toArray) (fun w hw => exec_loadAv (aR.below hw.drew) _ _ rfl rfl _ 4 rfl Tryd.underlying26 rfl (by kernel_rfl)) (by simp only [List.set_cons_succ, List.set_cons_zero]; rfl) ?_
  refine relMove Ext.refl rfl rfl rfl rfl _ (.inl rfl) (by conv => lhs; whnf) (by simp only [List.set_cons_succ, List.set_cons_zero]; rfl) ?_
  refine relMove Ext.refl rfl rfl rfl rfl _ (.inl rfl) (by conv => lhs; whnf) (by simp only [List.set_cons_succ, List.set_cons_zero]; rfl) ?_
  refine relCall1 rfl rfl rfl rfl (c := .bool tb) 20 #[.agg #[.int .u32 (ver : Int), .slice A1 n1 c1, .slice A2 n2 c2, .int .u32 (lock : Int)], .slice As ns cs, .slice Ah nh ch] (fun w => by go_simp) (fun w hw => (HV.out w (iR.below hw.drew) (oR.below hw.drew) (sX.below hw.drew) (zX.below hw.drew)).mono ?_) (by simp only [List.set_cons_succ, List.set_cons_zero]; rfl) ?_
  · rintro e w' ⟨rfl, b⟩
    exact ⟨rfl, b⟩
  refine relPure Ext.refl rfl rfl rfl rfl (c := .bool true) (fun w _ => by cases tb <;> (go_simp; first | done | rfl)) (by simp only [List.set_cons_succ, List.set_cons_zero]; rfl) ?_
  refine relPick Ext.refl rfl rfl rfl rfl _ _ _ rfl rfl (by conv => lhs; whnf) (by simp only [List.set_cons_succ, List.set_cons_zero]; rfl) ?_
  refine relEnd fun w15 hw15 => fill_take rfl rfl fun v' hv' => fill_end ?_
  simp only [List.set_cons_succ, List.set_cons_zero, List.drop_succ_cons, List.drop_zero]
  go_wp2
  go_ret
  exact ⟨rfl, bw14.trans (hw15.drew.mono bw14.size)⟩
theorem law_TxIs (ver lock : Nat) (hv : ver < 4294967296) (hlk : lock < 4294967296) (l : List (TIn × Sl)) (m : List (TOut × Sl)) (A1 A2 : Option Addr) (n1 n2 c1 c2 : Nat) (hn1 : l.length = n1) (hn2 : m.length = n2) (hm1 : n1 ≤ maxLen) (hm2 : n2 ≤ maxLen) (bs : List UInt8) (Ab : Option Addr) (nb cb : Nat) (hnb : bs.length = nb) (hbc : nb ≤ cb) (S : List (List UInt8 × Sl)) (As : Option Addr) (ns cs : Nat) (hns : S.length = ns) (Hs : List (List UInt8)) (Ah : Option Addr) (nh ch : Nat) (hnh : Hs.length = nh) (w : World) (h1 : RdIns w A1 l) (h2 : RdOuts w A2 m) (rb : Rd w Ab (bs.map bv)) (rs : RdBss w As S) (rh : RdHs w Ah Hs) (ht : Tabs w) :
    Calls Tryd.prog 4 #[.agg #[.int .u32 (ver : Int), .slice A1 n1 c1, .slice A2 n2 c2, .int .u32 (lock : Int)], .slice Ab nb cb, .slice As ns cs, .slice Ah nh ch] w fun e w' => e = .returned (.bool true) ∧ Below w.heap.size w w' := by
  cases hf : txFew (txOf ver l m lock)
  · exact is_few ver lock l m A1 A2 n1 n2 c1 c2 hn1 hn2 hm1 hm2 Ab nb cb As ns cs Ah nh ch w h1 h2 hf
  · by_cases hh : 3000 < nb ∨ 20 < ns ∨ 20 < nh
    · exact is_long ver lock l m A1 A2 n1 n2 c1 c2 hn1 hn2 hm1 hm2 Ab nb cb As ns cs Ah nh ch w h1 h2 hf hh
    · exact is_go ver lock hv hlk l m A1 A2 n1 n2 c1 c2 hn1 hn2 hm1 hm2 bs Ab nb cb hnb hbc S As ns cs hns Hs Ah nh ch hnh w h1 h2 rb rs rh ht hf (by omega) (by omega) (by omega)
end Go.Proofs.YtopgljkfoogihaaDoor
