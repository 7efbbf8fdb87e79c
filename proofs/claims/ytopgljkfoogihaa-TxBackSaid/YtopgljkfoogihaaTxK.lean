/- florinlaw08.TxBack: the walk. -/
import Derived.Test.YtopgljkfoogihaaTxO
import Derived.Test.YtopgljkfoogihaaTxE
import Derived.Test.YtopgljkfoogihaaTxF
import Derived.Test.YtopgljkfoogihaaTxLb
import Derived.Test.YtopgljkfoogihaaOpt
import Derived.Test.YtopgljkfoogihaaBt
namespace Go.Proofs.Ytopgljkfoogihaa
open Go.RowKit
attribute [local go_sem high] slB_lh slB_l slB_h
def TxW (ver lock n1 n2 : Nat) (l : List (TIn × Sl)) (m : List (TOut × Sl)) : VP := fun v w => ∃ (B1 B2 : Option Addr) (d1 d2 : Nat), v = .agg #[.int .u32 (ver : Int), .slice B1 n1 d1, .slice B2 n2 d2, .int .u32 (lock : Int)] ∧ RdIns w B1 l ∧ RdOuts w B2 m
theorem TxW.mono {ver lock n1 n2 : Nat} {l : List (TIn × Sl)} {m : List (TOut × Sl)} {v : Value} {w w' : World} (h : Ext w w') : TxW ver lock n1 n2 l m v w → TxW ver lock n1 n2 l m v w' := by
  rintro ⟨B1, B2, d1, d2, rfl, q1, q2⟩
  exact ⟨B1, B2, d1, d2, rfl, q1.below h, q2.below h⟩
theorem relRes_enter {P : Program} {R : World → World → Prop} {w : World} {c : Value} {x} (f : FuncId) (args : Array Value) (he : x = .ok (.enter f args) w) (h : Calls P f args w fun e w' => e = .returned c ∧ R w w') : relRes P R w (fun v _ => v = c) x := by
  rw [he]
  exact h.mono fun e w' ⟨h1, h2⟩ => ⟨c, h1, h2, rfl⟩
theorem txB_ten (t : TTx) : 10 ≤ (txB t).length := by
  have h := fun n => (Cm.size_le n).1
  simp only [txB, List.length_append, Cm.lo_length, Cm.put_length]
  have h1 := h t.ins.length
  have h2 := h t.outs.length
  omega
theorem txB_most (t : TTx) (hs : txSane t = true) (ho : t.ok) : (txB t).length ≤ 20100000 := by
  obtain ⟨⟨c1, c2, c3⟩, s1, s2⟩ := (txSane_iff t).1 hs
  obtain ⟨_, _, o3, _⟩ := ho
  have h := fun n => (Cm.size_le n).2
  have hi := flat_le inB 10049 t.ins fun i hi => inB_length i (o3 i hi).1 (s1 i hi)
  have hu := flat_le outBs 10017 t.outs fun i hi => outBs_length i (s2 i hi)
  have e1 : t.ins.length * 10049 ≤ 1000 * 10049 := Nat.mul_le_mul_right _ c2
  have e2 : t.outs.length * 10017 ≤ 1000 * 10017 := Nat.mul_le_mul_right _ c3
  simp only [txB, List.length_append, Cm.lo_length, Cm.put_length]
  have h1 := h t.ins.length
  have h2 := h t.outs.length
  omega
set_option maxRecDepth 100000 in
set_option maxHeartbeats 2000000 in
theorem back_long (ver lock : Nat) (l : List (TIn × Sl)) (m : List (TOut × Sl)) (A1 A2 : Option Addr) (n1 n2 c1 c2 : Nat) (hn1 : l.length = n1) (hn2 : m.length = n2) (hm1 : n1 ≤ maxLen) (hm2 : n2 ≤ maxLen) (w : World) (h1 : RdIns w A1 l) (h2 : RdOuts w A2 m) (Am : Option Addr) (nm cm : Nat) (kk : Int) (hh : txFew (txOf ver l m lock) = false ∨ 500 < nm) : Calls Try.prog 3 #[.agg #[.int .u32 (ver : Int), .slice A1 n1 c1, .slice A2 n2 c2, .int .u32 (lock : Int)], .slice Am nm cm, .int .i64 kk] w fun e w' => e = .returned (.bool true) ∧ Below w.heap.size w w' := by
  obtain ⟨W, hW⟩ : ∃ W, W = w.alloc (.cells #[.int .u32 (ver : Int), .slice A1 n1 c1, .slice A2 n2 c2, .int .u32 (lock : Int)] 26) := ⟨_, rfl⟩
  obtain ⟨H, hH⟩ : ∃ H, H = w.heap.size := ⟨_, rfl⟩
  have bW : Below w.heap.size w W := by rw [hW]; exact (Below.refl _ _).alloc (Nat.le_refl _) _
  have aW : Av W H 26 [.int .u32 (ver : Int), .slice A1 n1 c1, .slice A2 n2 c2, .int .u32 (lock : Int)] := by rw [hW, hH]; exact heap_alloc_new _ _
  have HA := Lib.hid (awake8 W)
  have HF := fun w' q1 q2 => TFew ver lock l m A1 A2 n1 n2 c1 c2 hn1 hn2 hm1 hm2 w' q1 q2
  obtain ⟨fw, hfw⟩ : ∃ fw, fw = txFew (txOf ver l m lock) := ⟨_, rfl⟩
  rw [← hfw] at HF hh
  replace HF := Lib.hid HF
  replace hW := Lib.hid hW
  replace hH := Lib.hid hH
  clear hfw hn1 hn2
  cases fw
  · clear hh
    go_enter Try.func3, Try.ntmps3
    go_upto_region 1 with fail
    rw [← hW.out, ← hH.out]
    go_upto_region 2 with (go_at_call 6; refine (HA.out).mono ?_; rintro e w1 ⟨rfl, b1⟩)
    have bw1 : Below w.heap.size w w1 := bW.trans (b1.mono bW.size)
    have a1 := aW.below b1
    have p1 := h1.below bw1
    have p2 := h2.below bw1
    clear HA
    go_wp2_with (first
      | ((with_reducible refine wpList_loadF 26 a1 ?_ _ 4 ?_ Try.underlying26 ?_ ?_ ?_); rfl; rfl; rfl; kernel_rfl)
      | (go_at_call 7; refine (HF.out _ p1 p2).mono ?_; rintro e w2 ⟨rfl, b2⟩))
    go_ret
    exact ⟨rfl, bw1.trans (b2.mono bw1.size)⟩
  · have t1 : decide ((500 : Int) < (nm : Int)) = true := by rcases hh with h | h; cases h; simp; omega
    clear hh
    go_enter Try.func3, Try.ntmps3
    go_upto_region 1 with fail
    rw [← hW.out, ← hH.out]
    go_upto_region 2 with (go_at_call 6; refine (HA.out).mono ?_; rintro e w1 ⟨rfl, b1⟩)
    have bw1 : Below w.heap.size w w1 := bW.trans (b1.mono bW.size)
    have a1 := aW.below b1
    have p1 := h1.below bw1
    have p2 := h2.below bw1
    clear HA
    go_wp2_with (first
      | ((with_reducible refine wpList_loadF 26 a1 ?_ _ 4 ?_ Try.underlying26 ?_ ?_ ?_); rfl; rfl; rfl; kernel_rfl)
      | (go_at_call 7; refine (HF.out _ p1 p2).mono ?_; rintro e w2 ⟨rfl, b2⟩))
    go_ret
    exact ⟨rfl, bw1.trans (b2.mono bw1.size)⟩

set_option maxRecDepth 100000 in
set_option maxHeartbeats 2000000 in
theorem back_insane (ver lock : Nat) (hv : ver < 4294967296) (hlk : lock < 4294967296) (l : List (TIn × Sl)) (m : List (TOut × Sl)) (A1 A2 : Option Addr) (n1 n2 c1 c2 : Nat) (hn1 : l.length = n1) (hn2 : m.length = n2) (hm1 : n1 ≤ maxLen) (hm2 : n2 ≤ maxLen) (w : World) (h1 : RdIns w A1 l) (h2 : RdOuts w A2 m) (Am : Option Addr) (nm cm : Nat) (kk : Int) (hf : txFew (txOf ver l m lock) = true) (hh : nm ≤ 500) (hs : txSane (txOf ver l m lock) = false) : Calls Try.prog 3 #[.agg #[.int .u32 (ver : Int), .slice A1 n1 c1, .slice A2 n2 c2, .int .u32 (lock : Int)], .slice Am nm cm, .int .i64 kk] w fun e w' => e = .returned (.bool true) ∧ Below w.heap.size w w' := by
  obtain ⟨W, hW⟩ : ∃ W, W = w.alloc (.cells #[.int .u32 (ver : Int), .slice A1 n1 c1, .slice A2 n2 c2, .int .u32 (lock : Int)] 26) := ⟨_, rfl⟩
  obtain ⟨H, hH⟩ : ∃ H, H = w.heap.size := ⟨_, rfl⟩
  have bW : Below w.heap.size w W := by rw [hW]; exact (Below.refl _ _).alloc (Nat.le_refl _) _
  have aW : Av W H 26 [.int .u32 (ver : Int), .slice A1 n1 c1, .slice A2 n2 c2, .int .u32 (lock : Int)] := by rw [hW, hH]; exact heap_alloc_new _ _
  have HA := Lib.hid (awake8 W)
  have HF := fun w' q1 q2 => TFew ver lock l m A1 A2 n1 n2 c1 c2 hn1 hn2 hm1 hm2 w' q1 q2
  have t1 : decide ((500 : Int) < (nm : Int)) = false := by simp; omega
  rw [hf] at HF
  obtain ⟨_, _, f1, f2⟩ := (txFew_iff _).1 hf
  simp only [txOf, List.length_map, hn1, hn2] at f1 f2
  have HO := fun w' q1 q2 => TOurs ver lock hv hlk l m A1 A2 n1 n2 c1 c2 hn1 hn2 (by omega) (by omega) w' q1 q2
  have HP := fun B1 B2 e1 e2 w' q1 q2 => TPut_bad ver lock l m B1 B2 n1 n2 e1 e2 hn1 hn2 w' q1 q2 hs
  have HS := fun B1 B2 e1 e2 w' q1 q2 => TSane ver lock l m B1 B2 n1 n2 e1 e2 hn1 hn2 w' q1 q2
  rw [hs] at HS
  replace HF := Lib.hid HF
  replace HO := Lib.hid HO
  replace HP := Lib.hid HP
  replace HS := Lib.hid HS
  replace hW := Lib.hid hW
  replace hH := Lib.hid hH
  clear hn1 hn2 hf hs
  go_enter Try.func3, Try.ntmps3
  go_upto_region 1 with fail
  rw [← hW.out, ← hH.out]
  go_upto_region 2 with (go_at_call 6; refine (HA.out).mono ?_; rintro e w1 ⟨rfl, b1⟩)
  have bw1 : Below w.heap.size w w1 := bW.trans (b1.mono bW.size)
  have a1 := aW.below b1
  have p1 := h1.below bw1
  have p2 := h2.below bw1
  clear HA
  go_upto_region 4 with (first
    | ((with_reducible refine wpList_loadF 26 a1 ?_ _ 4 ?_ Try.underlying26 ?_ ?_ ?_); rfl; rfl; rfl; kernel_rfl)
    | (go_at_call 7; refine (HF.out _ p1 p2).mono ?_; rintro e w2 ⟨rfl, b2⟩))
  have bw2 := bw1.trans (b2.mono bw1.size)
  have a2 := a1.below b2
  have p3 := p1.below b2
  have p4 := p2.below b2
  clear a1 p1 p2 HF
  go_upto_region 5 with (first
    | ((with_reducible refine wpList_loadF 26 a2 ?_ _ 4 ?_ Try.underlying26 ?_ ?_ ?_); rfl; rfl; rfl; kernel_rfl)
    | (go_at_call 9; refine (HO.out _ p3 p4).mono ?_; rintro e w3 ⟨B1, B2, e1, e2, rfl, g1, g2, s1, s2, b3⟩)
    | (go_at_call 8; refine (HP.out _ _ _ _ _ s1 s2).mono ?_; rintro e w4 ⟨rfl, b4⟩))
  have bw3 := bw2.trans (b3.mono bw2.size)
  have bw4 := bw3.trans (b4.mono bw3.size)
  have a4 := (a2.below b3).below b4
  have p5 := (p3.below b3).below b4
  have p6 := (p4.below b3).below b4
  clear a2 p3 p4 s1 s2 g1 g2
  go_wp2_with (first
    | ((with_reducible refine wpList_loadF 26 a4 ?_ _ 4 ?_ Try.underlying26 ?_ ?_ ?_); rfl; rfl; rfl; kernel_rfl)
    | (go_at_call 9; refine (HO.out _ p5 p6).mono ?_; rintro e w5 ⟨C1, C2, x1, x2, rfl, g1, g2, s1, s2, b5⟩)
    | (go_at_call 10; refine (HS.out _ _ _ _ _ s1 s2).mono ?_; rintro e w6 ⟨rfl, b6⟩))
  go_ret
  have bw5 := bw4.trans (b5.mono bw4.size)
  exact ⟨rfl, bw5.trans (b6.mono bw5.size)⟩

set_option maxRecDepth 100000 in
set_option maxHeartbeats 4000000 in
theorem back_sane (ver lock : Nat) (hv : ver < 4294967296) (hlk : lock < 4294967296) (l : List (TIn × Sl)) (m : List (TOut × Sl)) (A1 A2 : Option Addr) (n1 n2 c1 c2 : Nat) (hn1 : l.length = n1) (hn2 : m.length = n2) (hm1 : n1 ≤ maxLen) (hm2 : n2 ≤ maxLen) (w : World) (h1 : RdIns w A1 l) (h2 : RdOuts w A2 m) (ms : List UInt8) (Am : Option Addr) (nm cm : Nat) (hnm : ms.length = nm) (hrm : Rd w Am (ms.map bv)) (kk : Int) (hf : txFew (txOf ver l m lock) = true) (hh : nm ≤ 500) (hs : txSane (txOf ver l m lock) = true) : Calls Try.prog 3 #[.agg #[.int .u32 (ver : Int), .slice A1 n1 c1, .slice A2 n2 c2, .int .u32 (lock : Int)], .slice Am nm cm, .int .i64 kk] w fun e w' => e = .returned (.bool true) ∧ Below w.heap.size w w' := by
  obtain ⟨W, hW⟩ : ∃ W, W = w.alloc (.cells #[.int .u32 (ver : Int), .slice A1 n1 c1, .slice A2 n2 c2, .int .u32 (lock : Int)] 26) := ⟨_, rfl⟩
  obtain ⟨H, hH⟩ : ∃ H, H = w.heap.size := ⟨_, rfl⟩
  have bW : Below w.heap.size w W := by rw [hW]; exact (Below.refl _ _).alloc (Nat.le_refl _) _
  have aW : Av W H 26 [.int .u32 (ver : Int), .slice A1 n1 c1, .slice A2 n2 c2, .int .u32 (lock : Int)] := by rw [hW, hH]; exact heap_alloc_new _ _
  have HA := Lib.hid (awake8 W)
  have HF := fun w' q1 q2 => TFew ver lock l m A1 A2 n1 n2 c1 c2 hn1 hn2 hm1 hm2 w' q1 q2
  have t1 : decide ((500 : Int) < (nm : Int)) = false := by simp; omega
  rw [hf] at HF
  obtain ⟨_, _, f1, f2⟩ := (txFew_iff _).1 hf
  simp only [txOf, List.length_map, hn1, hn2] at f1 f2
  have HO := fun w' q1 q2 => TOurs ver lock hv hlk l m A1 A2 n1 n2 c1 c2 hn1 hn2 (by omega) (by omega) w' q1 q2
  have HP := fun B1 B2 e1 e2 w' q1 q2 => TPut_ok ver lock hv hlk l m B1 B2 n1 n2 e1 e2 hn1 hn2 w' q1 q2 hs
  have HS := fun B1 B2 e1 e2 w' q1 q2 => TSane ver lock l m B1 B2 n1 n2 e1 e2 hn1 hn2 w' q1 q2
  rw [hs] at HS
  obtain ⟨T, hT⟩ : ∃ T, T = txOf ver l m lock := ⟨_, rfl⟩
  have hok : T.ok := by
    rw [hT]
    refine ⟨hv, hlk, ?_, ?_⟩
    · intro i hi
      obtain ⟨x, hx, rfl⟩ := List.mem_map.1 hi
      exact (h1.2 x hx).1
    · intro i hi
      obtain ⟨x, hx, rfl⟩ := List.mem_map.1 hi
      exact (h2.2 x hx).1
  rw [← hT] at hs HP
  obtain ⟨ps, hps⟩ : ∃ ps, ps = txB T := ⟨_, rfl⟩
  rw [← hps] at HP
  obtain ⟨K, hK⟩ : ∃ K, K = ps.length := ⟨_, rfl⟩
  have hK10 : 10 ≤ K := by rw [hK, hps]; exact txB_ten T
  have hKm : K ≤ 20100000 := by rw [hK, hps]; exact txB_most T hs hok
  have hall : txGet (ps ++ ms) = (T, K, 0) := by rw [hK, hps]; exact txGet_txB T hok hs ms
  have hsh : ∀ i, i < K → (txGet (ps.take i)).2.2 = 1 := fun i hi => by rw [hps]; exact txGet_short T hok hs i (by rw [← hps, ← hK]; exact hi)
  have HG := fun A c w' hc q => TGet (ps ++ ms) A (K + nm) c (by rw [List.length_append, ← hK, hnm]) hc (by omega) w' q
  rw [hall] at HG
  dsimp only at HG
  have HG2 := fun A i c w' hi hc q => TGet (ps.take i) A i c (by rw [List.length_take, ← hK]; exact Nat.min_eq_left hi) hc (by omega) w' q
  replace HF := Lib.hid HF
  replace HO := Lib.hid HO
  replace HP := Lib.hid HP
  replace HS := Lib.hid HS
  replace HG := Lib.hid HG
  replace HG2 := Lib.hid HG2
  replace hsh := Lib.hid hsh
  replace hW := Lib.hid hW
  replace hH := Lib.hid hH
  replace hT := Lib.hid hT
  replace hps := Lib.hid hps
  replace hK := Lib.hid hK
  replace hnm := Lib.hid hnm
  replace hn1 := Lib.hid hn1
  replace hn2 := Lib.hid hn2
  have t2 : decide ((K : Int) < 10) = false := by simp; omega
  obtain ⟨q, i, hq, hq0, hqi, hqt, hiK⟩ := and_ffff_at kk K (by omega)
  clear hf hs hok hall
  go_enter Try.func3, Try.ntmps3
  go_upto_region 1 with fail
  rw [← hW.out, ← hH.out]
  go_upto_region 2 with (go_at_call 6; refine (HA.out).mono ?_; rintro e w1 ⟨rfl, b1⟩)
  have bw1 : Below w.heap.size w w1 := bW.trans (b1.mono bW.size)
  have a1 := aW.below b1
  have p1 := h1.below bw1
  have p2 := h2.below bw1
  clear HA
  go_upto_region 4 with (first
    | ((with_reducible refine wpList_loadF 26 a1 ?_ _ 4 ?_ Try.underlying26 ?_ ?_ ?_); rfl; rfl; rfl; kernel_rfl)
    | (go_at_call 7; refine (HF.out _ p1 p2).mono ?_; rintro e w2 ⟨rfl, b2⟩))
  have bw2 := bw1.trans (b2.mono bw1.size)
  have a2 := a1.below b2
  have p3 := p1.below b2
  have p4 := p2.below b2
  clear a1 p1 p2 HF
  go_upto_region 5 with (first
    | ((with_reducible refine wpList_loadF 26 a2 ?_ _ 4 ?_ Try.underlying26 ?_ ?_ ?_); rfl; rfl; rfl; kernel_rfl)
    | (go_at_call 9; refine (HO.out _ p3 p4).mono ?_; rintro e w3 ⟨B1, B2, e1, e2, rfl, g1, g2, s1, s2, b3⟩)
    | (go_at_call 8; refine (HP.out _ _ _ _ _ s1 s2).mono ?_; rintro e w4 ⟨v4, rfl, ho, b4⟩; obtain ⟨A4, c4, rfl, hc4, _⟩ := ho.formN K hK.out.symm))
  have bw3 := bw2.trans (b3.mono bw2.size)
  have bw4 := bw3.trans (b4.mono bw3.size)
  have a4 := (a2.below b3).below b4
  have p5 := (p3.below b3).below b4
  have p6 := (p4.below b3).below b4
  have hr4 := ho.rd
  have hrm4 := hrm.below bw4
  clear a2 p3 p4 s1 s2 g1 g2 ho
  go_upto_region 9 with (first
    | ((with_reducible refine wpList_loadF 26 a4 ?_ _ 4 ?_ Try.underlying26 ?_ ?_ ?_); rfl; rfl; rfl; kernel_rfl)
    | (go_at_call 9; refine (HO.out _ p5 p6).mono ?_; rintro e w5 ⟨C1, C2, x1, x2, rfl, g1, g2, s1, s2, b5⟩)
    | (go_at_call 10; refine (HS.out _ _ _ _ _ s1 s2).mono ?_; rintro e w6 ⟨rfl, b6⟩))
  have bw5 := bw4.trans (b5.mono bw4.size)
  have bw6 := bw5.trans (b6.mono bw5.size)
  have a6 := (a4.below b5).below b6
  have p7 := (p5.below b5).below b6
  have p8 := (p6.below b5).below b6
  have hr6 := (hr4.below b5).below b6
  have hrm6 := (hrm4.below b5).below b6
  clear a4 p5 p6 hr4 hrm4 s1 s2 g1 g2 HO HP HS
  have hmade := OwnB.made w6 w6.heap.size (Nat.le_refl _) #[] 0 (by simp only [maxLen]; omega) rfl
  have hb7 := (Below.refl w6.heap.size w6).alloc (Nat.le_refl _) (.cells #[] 5)
  have hr7 := hr6.below hb7
  go_upto_region 11 with (first
    | (at_builtin; refine wpList_appB hmade hb7 (by simp) K c4 hr7 hK.out.symm (by simp; omega) rfl (.tmp 54) (.tmp 55) rfl rfl rfl ?_; intro v8 w8 ho8 hb8 hz8 hg8; have hrm8 := hrm6.below hb8)
    | (at_builtin; refine wpList_appB ho8 hb8 hb8.size nm cm hrm8 hnm.out (by have := hK.out; simp; omega) rfl (.tmp 57) (.tmp 58) rfl rfl rfl ?_; intro v9 w9 ho9 hb9 hz9 hg9; obtain ⟨A9, c9, rfl, hc9, hc10⟩ := ho9.formN (K + nm) (by have := hK.out; have := hnm.out; simp; omega)))
  have hr9 := hr6.below hb9
  have bw9 := bw6.trans (hb9.mono bw6.size)
  have a9 := a6.below hb9
  have p9 := p7.below hb9
  have p10 := p8.below hb9
  have ho9r := ho9.rd
  rw [List.nil_append] at ho9r
  clear a6 p7 p8 hr6 hr7 hrm6 hrm8 hmade hb7 hb8 ho8 hz8 hz9 hg8 hg9 ho9
  go_wp2_with fail
  refine (HG.out A9 c9 w9 hc9 ho9r).mono ?_
  rintro r w10 ⟨⟨v10, rfl, D1, D2, r1, r2, y1, y2, l', m', rfl, hl', hm', hy1, hy2, t1, t2, hi', ho', _, _⟩, b10⟩
  have bw10 := bw9.trans (b10.mono bw9.size)
  have a10 := a9.below b10
  have p11 := p9.below b10
  have p12 := p10.below b10
  have hr10 := hr9.below b10
  clear HG a9 p9 p10 hr9 ho9r
  have hTv : T.ver = ver := by rw [hT.out]; rfl
  have hTl : T.lock = lock := by rw [hT.out]; rfl
  rw [hTv, hTl]
  rw [hT.out] at hi' ho'
  simp only [txOf] at hi' ho'
  obtain rfl : n1 = r1 := by
    have := congrArg List.length hi'
    rw [List.length_map, hl', List.length_map, hn1.out] at this
    exact this.symm
  obtain rfl : n2 = r2 := by
    have := congrArg List.length ho'
    rw [List.length_map, hm', List.length_map, hn2.out] at this
    exact this.symm
  have HTh := Lib.hid (fun w' q1 q2 => TTheirs ver lock hv hlk l' m' D1 D2 n1 n2 y1 y2 hl' hm' (by omega) (by omega) w' q1 q2)
  have HSm := Lib.hid (fun B1 B2 d1 d2 w' q1 q2 q3 q4 => TSame_yes ver lock l' l m' m B1 B2 A1 A2 n1 n2 d1 d2 c1 c2 hl' hm' hn1.out hn2.out (by omega) (by omega) w' q1 q2 q3 q4 true (by
    refine ⟨fun _ => ?_, fun _ => rfl⟩
    rw [txOf_eq]
    exact ⟨rfl, rfl, hi', ho'⟩))
  clear hTv hTl hl' hm' hi' ho'
  go_upto_region 12 with ((with_reducible refine wpList_storeF 36 ((Below.refl w10.heap.size w10).alloc (Nat.le_refl _) _) (heap_alloc_new _ _) (Nat.le_refl _) [.int .u32 (ver : Int), .slice D1 n1 y1, .slice D2 n2 y2, .int .u32 (lock : Int)] ?_ ?_ 4 ?_ ?_ ?_ ?_ ?_); rfl; rfl; rfl; kernel_rfl; rfl; rfl; intro w11 g11 b11 k11 z11; clear k11; replace z11 := Lib.hid z11)
  have bw11 := bw10.trans (b11.mono bw10.size)
  have a11 := a10.below b11
  have p13 := p11.below b11
  have p14 := p12.below b11
  have t3 := t1.below b11
  have t4 := t2.below b11
  have hr11 := hr10.below b11
  clear a10 p11 p12 t1 t2 hr10
  have hic : (i : Int) ≤ (c4 : Int) := by omega
  have hi0 : (0 : Int) ≤ (i : Int) := by omega
  go_wp2_with fail
  refine (HG2.out A4 i c4 w11 (by omega) (by omega) (by rw [List.map_take]; exact hr11.take i)).mono ?_
  rw [hsh.out i hiK]
  rintro r w12 ⟨⟨v12, rfl, E1, E2, s1, s2, x1, x2, l2, m2, rfl, _⟩, b12⟩
  have bw12 := bw11.trans (b12.mono bw11.size)
  have a12 := a11.below b12
  have p15 := p13.below b12
  have p16 := p14.below b12
  have t5 := t3.below b12
  have t6 := t4.below b12
  have g12 := g11.below b12
  generalize (txGet (ps.take i)).2.1 = Z at *
  generalize ((txGet (ps.take i)).1.ver : Int) = Z1 at *
  generalize ((txGet (ps.take i)).1.lock : Int) = Z2 at *
  clear HG2 a11 p13 p14 t3 t4 hr11 g11 hq hqi hqt
  go_upto_region 13 with ((with_reducible refine wpList_storeF 36 ((Below.refl w12.heap.size w12).alloc (Nat.le_refl _) _) (heap_alloc_new _ _) (Nat.le_refl _) [.int .u32 Z1, .slice E1 s1 x1, .slice E2 s2 x2, .int .u32 Z2] ?_ ?_ 4 ?_ ?_ ?_ ?_ ?_); rfl; rfl; rfl; kernel_rfl; rfl; rfl; intro w13 g13 b13 k13 z13; clear k13; replace z13 := Lib.hid z13)
  have bw13 := bw12.trans (b13.mono bw12.size)
  have a13 := a12.below b13
  have p17 := p15.below b13
  have p18 := p16.below b13
  have t7 := t5.below b13
  have t8 := t6.below b13
  have g14 := g12.below b13
  clear a12 p15 p16 t5 t6 g12
  go_wp2_with fail
  refine wp_region_relT 21 [(13, TxW ver lock n1 n2 l' m')] Ext (by kernel_rfl) (by kernel_rfl) (by kernel_rfl) (by kernel_rfl) (by kernel_rfl) Ext.refl Ext.trans (by intro p hp v w w' hR; simp only [List.mem_singleton] at hp; subst hp; exact TxW.mono hR) ?_
  refine relMove Ext.refl rfl rfl rfl rfl _ (.inl rfl) (by conv => lhs; whnf) (by simp only [List.set_cons_succ, List.set_cons_zero]; rfl) ?_
  refine relMove Ext.refl rfl rfl rfl rfl _ (.inl rfl) (by conv => lhs; whnf) (by simp only [List.set_cons_succ, List.set_cons_zero]; rfl) ?_
  refine relMove Ext.refl rfl rfl rfl rfl _ (.inl rfl) (by conv => lhs; whnf) (by simp only [List.set_cons_succ, List.set_cons_zero]; rfl) ?_
  refine relPure Ext.refl rfl rfl rfl rfl (c := .bool true) (fun w _ => by go_simp; first | done | rfl) (by simp only [List.set_cons_succ, List.set_cons_zero]; rfl) ?_
  refine relPick Ext.refl rfl rfl rfl rfl _ _ _ rfl rfl (by conv => lhs; whnf) (by simp only [List.set_cons_succ, List.set_cons_zero]; rfl) ?_
  refine relMove Ext.refl rfl rfl rfl rfl _ (.inl rfl) (by conv => lhs; whnf) (by simp only [List.set_cons_succ, List.set_cons_zero]; rfl) ?_
  refine relMove Ext.refl rfl rfl rfl rfl _ (.inl rfl) (by conv => lhs; whnf) (by simp only [List.set_cons_succ, List.set_cons_zero]; rfl) ?_
  refine relMove Ext.refl rfl rfl rfl rfl _ (.inl rfl) (by conv => lhs; whnf) (by simp only [List.set_cons_succ, List.set_cons_zero]; rfl) ?_
  refine relPure Ext.refl rfl rfl rfl rfl (fun w _ => by go_simp; first | done | rfl) (by simp only [List.set_cons_succ, List.set_cons_zero]; rfl) ?_
  refine relPure Ext.refl rfl rfl rfl rfl (c := .bool true) (fun w _ => by go_simp; first | done | rfl) (by simp only [List.set_cons_succ, List.set_cons_zero]; rfl) ?_
  refine relPick Ext.refl rfl rfl rfl rfl _ _ _ rfl rfl (by conv => lhs; whnf) (by simp only [List.set_cons_succ, List.set_cons_zero]; rfl) ?_
  refine relMove Ext.refl rfl rfl rfl rfl _ (.inl rfl) (by conv => lhs; whnf) (by simp only [List.set_cons_succ, List.set_cons_zero]; rfl) ?_
  refine relPure Ext.refl rfl rfl rfl rfl (c := .agg #[.int .u32 (ver : Int), .slice D1 n1 y1, .slice D2 n2 y2, .int .u32 (lock : Int)]) (fun w hw => exec_loadAv (g14.below hw.drew) _ _ rfl rfl _ 4 rfl Try.underlying36 rfl (by kernel_rfl)) (by simp only [List.set_cons_succ, List.set_cons_zero]; rfl) ?_
  refine relCall _ rfl rfl rfl 13 #[.agg #[.int .u32 (ver : Int), .slice D1 n1 y1, .slice D2 n2 y2, .int .u32 (lock : Int)]] (fun w => by go_simp) (fun w hw => (HTh.out w (t7.below hw.drew) (t8.below hw.drew)).mono ?_) ?_
  · rintro e w' ⟨B1, B2, d1, d2, rfl, _, _, q1, q2, hb⟩
    exact ⟨_, rfl, hb, B1, B2, d1, d2, rfl, q1, q2⟩
  refine relPure Ext.refl rfl rfl rfl rfl (c := .agg #[.int .u32 (ver : Int), .slice A1 n1 c1, .slice A2 n2 c2, .int .u32 (lock : Int)]) (fun w hw => exec_loadAv (a13.below hw.drew) _ _ rfl rfl _ 4 rfl Try.underlying26 rfl (by kernel_rfl)) (by simp only [List.set_cons_succ, List.set_cons_zero]; rfl) ?_
  refine relOn rfl rfl (c := .bool true) (fun w hw => fill_take rfl rfl fun u hu => fill_none rfl (relOp_yes rfl ?_)) (by simp only [List.set_cons_succ, List.set_cons_zero]; rfl) ?_
  · obtain ⟨B1, B2, d1, d2, rfl, q1, q2⟩ := hu
    refine relRes_enter 12 #[.agg #[.int .u32 (ver : Int), .slice B1 n1 d1, .slice B2 n2 d2, .int .u32 (lock : Int)], .agg #[.int .u32 (ver : Int), .slice A1 n1 c1, .slice A2 n2 c2, .int .u32 (lock : Int)]] (by go_simp) ((HSm.out B1 B2 d1 d2 w q1 q2 (p17.below hw.drew) (p18.below hw.drew)).mono ?_)
    rintro e w' ⟨rfl, hb⟩
    exact ⟨rfl, hb⟩
  refine relPick Ext.refl rfl rfl rfl rfl _ _ _ rfl rfl (by conv => lhs; whnf) (by simp only [List.set_cons_succ, List.set_cons_zero]; rfl) ?_
  refine relMove Ext.refl rfl rfl rfl rfl _ (.inl rfl) (by conv => lhs; whnf) (by simp only [List.set_cons_succ, List.set_cons_zero]; rfl) ?_
  refine relMove Ext.refl rfl rfl rfl rfl _ (.inl rfl) (by conv => lhs; whnf) (by simp only [List.set_cons_succ, List.set_cons_zero]; rfl) ?_
  refine relPure Ext.refl rfl rfl rfl rfl (c := .bool true) (fun w _ => by go_simp; first | done | rfl) (by simp only [List.set_cons_succ, List.set_cons_zero]; rfl) ?_
  refine relPick Ext.refl rfl rfl rfl rfl _ _ _ rfl rfl (by conv => lhs; whnf) (by simp only [List.set_cons_succ, List.set_cons_zero]; rfl) ?_
  refine relEnd fun w14 hw14 => fill_take rfl rfl fun v' hv' => fill_end ?_
  simp only [List.set_cons_succ, List.set_cons_zero, List.drop_succ_cons, List.drop_zero]
  go_wp2
  go_ret
  exact ⟨rfl, bw13.trans (hw14.drew.mono bw13.size)⟩
theorem law_TxBack (ver lock : Nat) (hv : ver < 4294967296) (hlk : lock < 4294967296) (l : List (TIn × Sl)) (m : List (TOut × Sl)) (A1 A2 : Option Addr) (n1 n2 c1 c2 : Nat) (hn1 : l.length = n1) (hn2 : m.length = n2) (hm1 : n1 ≤ maxLen) (hm2 : n2 ≤ maxLen) (w : World) (h1 : RdIns w A1 l) (h2 : RdOuts w A2 m) (ms : List UInt8) (Am : Option Addr) (nm cm : Nat) (hnm : ms.length = nm) (hrm : Rd w Am (ms.map bv)) (kk : Int) : Calls Try.prog 3 #[.agg #[.int .u32 (ver : Int), .slice A1 n1 c1, .slice A2 n2 c2, .int .u32 (lock : Int)], .slice Am nm cm, .int .i64 kk] w fun e w' => e = .returned (.bool true) ∧ Below w.heap.size w w' := by
  cases hf : txFew (txOf ver l m lock)
  · exact back_long ver lock l m A1 A2 n1 n2 c1 c2 hn1 hn2 hm1 hm2 w h1 h2 Am nm cm kk (.inl hf)
  · by_cases hh : nm ≤ 500
    · cases hs : txSane (txOf ver l m lock)
      · exact back_insane ver lock hv hlk l m A1 A2 n1 n2 c1 c2 hn1 hn2 hm1 hm2 w h1 h2 Am nm cm kk hf hh hs
      · exact back_sane ver lock hv hlk l m A1 A2 n1 n2 c1 c2 hn1 hn2 hm1 hm2 w h1 h2 ms Am nm cm hnm hrm kk hf hh hs
    · exact back_long ver lock l m A1 A2 n1 n2 c1 c2 hn1 hn2 hm1 hm2 w h1 h2 Am nm cm kk (.inr (by omega))
end Go.Proofs.Ytopgljkfoogihaa
