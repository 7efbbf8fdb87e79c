/- florinlaw08: awake, and the law TxOnce: the walks. -/
import Derived.Test.YtopgljkfoogihaaTxG3
import Derived.Test.YtopgljkfoogihaaTxP
import Derived.Test.YtopgljkfoogihaaTxLw
import Derived.Test.YtopgljkfoogihaaRow
namespace Go.Proofs.Ytopgljkfoogihaa
open Go.RowKit
attribute [local go_sem high] slB_lh slB_l slB_h

def exT : TTx := ⟨0, [⟨List.replicate 32 0, 0, [], 0⟩], [⟨0, []⟩], 0⟩
def exB : List UInt8 := txB exT
theorem exB_length : exB.length = 60 := by decide +kernel
theorem exB_get : (txGet exB).2.1 = 60 ∧ (txGet exB).2.2 = 0 ∧ (txGet exB).1.ins.length = 1 := by decide +kernel
abbrev exI : TIn × Sl := (⟨List.replicate 32 0, 0, [], 0⟩, (none, 0))
abbrev exO : TOut × Sl := (⟨0, []⟩, (none, 0))
theorem exI_cells : inc exI = List.replicate 32 (Value.int .u8 0) ++ [.int .u32 0, .slice none 0 0, .int .u32 0] := by
  rw [inc, zeros_map]; rfl

set_option maxRecDepth 100000 in
set_option maxHeartbeats 2000000 in
theorem awake8 (w : World) : Calls Try.prog 6 #[] w fun e w' => e = .returned (.bool true) ∧ Below w.heap.size w w' := by
  obtain ⟨zi, hzi⟩ : ∃ zi, zi = inc exI := ⟨_, rfl⟩
  have hzl : zi.length = 35 := by rw [hzi, exI_cells]; simp
  have hzc : zi = List.replicate 32 (Value.int .u8 0) ++ [.int .u32 0, .slice none 0 0, .int .u32 0] := by rw [hzi, exI_cells]
  have hze : (Value.agg #[.int .u8 0, .int .u8 0, .int .u8 0, .int .u8 0, .int .u8 0, .int .u8 0, .int .u8 0, .int .u8 0, .int .u8 0, .int .u8 0, .int .u8 0, .int .u8 0, .int .u8 0, .int .u8 0, .int .u8 0, .int .u8 0, .int .u8 0, .int .u8 0, .int .u8 0, .int .u8 0, .int .u8 0, .int .u8 0, .int .u8 0, .int .u8 0, .int .u8 0, .int .u8 0, .int .u8 0, .int .u8 0, .int .u8 0, .int .u8 0, .int .u8 0, .int .u8 0, .int .u32 0, .slice none 0 0, .int .u32 0]) = Value.agg zi.toArray := by rw [hzc]; rfl
  obtain ⟨W, hW⟩ : ∃ W, W = (w.alloc (.cells zi.toArray 56)).alloc (.cells #[.int .u64 0, .slice none 0 0] 57) := ⟨_, rfl⟩
  have bW : Below w.heap.size w W := by rw [hW]; exact ((Below.refl _ _).alloc (Nat.le_refl _) _).alloc (by simp) _
  have rI : RdIns W (some ⟨w.heap.size, 0, none⟩) [exI] := by
    refine ⟨?_, fun e he => ?_⟩
    · have : Av W w.heap.size 56 zi := by rw [hW]; exact heap_alloc2_old _ _ _
      rw [icl, List.flatMap_cons, List.flatMap_nil, List.append_nil, ← hzi]
      exact this.rd
    · rw [List.mem_singleton.1 he]
      exact ⟨⟨by simp, by simp, by simp⟩, Rd.nil _ _, by simp⟩
  have rO : RdOuts W (some ⟨w.heap.size + 1, 0, none⟩) [exO] := by
    refine ⟨?_, fun e he => ?_⟩
    · have : Av W (w.heap.size + 1) 57 [.int .u64 0, .slice none 0 0] := by rw [hW]; exact heap_alloc2_new _ _ _
      exact this.rd
    · rw [List.mem_singleton.1 he]
      exact ⟨by simp [TOut.ok], Rd.nil _ _, by simp⟩
  have HP := TPut_ok 0 0 (by omega) (by omega) [exI] [exO] (some ⟨w.heap.size, 0, none⟩) (some ⟨w.heap.size + 1, 0, none⟩) 1 1 1 1 rfl rfl W rI rO (by decide +kernel)
  rw [show txB (txOf 0 [exI] [exO] 0) = exB from rfl] at HP
  replace HP := Lib.hid HP
  replace hzl := Lib.hid hzl
  replace hW := Lib.hid hW
  clear hzi hzc rI rO
  go_enter Try.func6, Try.ntmps6
  go_wp2_with (first
    | refine wpList_execW rfl (exec_build1 Try.underlying33 infoI zeroI (by decide) (by decide) w zi hzl.out _ rfl (by first | exact hze | rfl)) ?_
    | refine wpList_execW rfl (exec_build1 Try.underlying34 infoO zeroO (by decide) (by decide) _ [.int .u64 0, .slice none 0 0] rfl _ rfl rfl) ?_)
  rw [← hW.out]
  refine HP.out.mono ?_
  rintro e w1 ⟨v, rfl, ho, b1⟩
  obtain ⟨A, c, rfl, hc, _⟩ := ho.formN 60 exB_length
  have bw1 : Below w.heap.size w w1 := bW.trans (b1.mono bW.size)
  have HG := TGet exB A 60 c exB_length hc (by omega) w1 ho.rd
  rw [exB_get.1, exB_get.2.1, show ((60 : Nat) : Int) = 60 from rfl, show ((0 : Nat) : Int) = 0 from rfl] at HG
  have hsn := (txGet_ok exB exB_get.2.1).2.1
  have hin := exB_get.2.2
  generalize (txGet exB).1 = T at *
  replace HG := Lib.hid HG
  replace HP := trivial
  clear ho
  go_wp2_with fail
  refine HG.out.mono ?_
  rintro e w2 ⟨⟨v2, rfl, A1, A2, n1, n2, c1, c2, l, m, rfl, hl1, hl2, hc1, hc2, r1, r2, hm1, hm2, hv, hlk⟩, b2⟩
  have bw2 : Below w.heap.size w w2 := bw1.trans (b2.mono bw1.size)
  have hT : txOf T.ver l m T.lock = T := by rw [txOf, hm1, hm2]
  have HS := fun w' q1 q2 => TSane T.ver T.lock l m A1 A2 n1 n2 c1 c2 hl1 hl2 w' q1 q2
  rw [hT, hsn] at HS
  replace HS := Lib.hid HS
  have hn1 : n1 = 1 := by rw [← hl1, ← hin, ← hm1, List.length_map]
  subst hn1
  clear hsn hin hT hl1 hl2 hm1 hm2 HG
  generalize (T.ver : Int) = V at *
  generalize (T.lock : Int) = K at *
  go_upto_region 3 with (refine wpList_storeAv ((Below.refl w2.heap.size w2).alloc (Nat.le_refl _) _) (heap_alloc_new _ _) (Nat.le_refl _) rfl _ _ _ rfl rfl [.int .u32 V, .slice A1 1 c1, .slice A2 n2 c2, .int .u32 K] rfl 4 rfl (by kernel_rfl) rfl rfl ?_; intro w3 a3 b3 k3 z3; clear k3; replace z3 := Lib.hid z3)
  have bw3 : Below w.heap.size w w3 := bw2.trans (b3.mono bw2.size)
  have hc3 := a3.cell 1 _ rfl
  have q1 := r1.below b3
  have q2 := r2.below b3
  replace r1 := Lib.hid r1
  replace r2 := Lib.hid r2
  go_wp2_with (first
    | refine wpList_execW rfl (exec_loadAv a3 _ _ rfl rfl _ 4 rfl Try.underlying36 rfl (by kernel_rfl)) ?_
    | (go_at_call 10; refine (HS.out _ q1 q2).mono ?_; rintro e w4 ⟨rfl, b4⟩))
  go_ret
  exact ⟨rfl, bw3.trans (b4.mono bw3.size)⟩

set_option maxRecDepth 100000 in
set_option maxHeartbeats 2000000 in
theorem once_long (n : Nat) (A : Option Addr) (c : Nat) (h : 4000 < n) (w : World) : Calls Try.prog 4 #[.slice A n c] w fun e w' => e = .returned (.bool true) ∧ Below w.heap.size w w' := by
  have t1 : decide ((4000 : Int) < (n : Int)) = true := by simp; omega
  have HA := Lib.hid (awake8 w)
  go_enter Try.func4, Try.ntmps4
  go_wp2_with (go_at_call 6; refine (HA.out).mono ?_; rintro e w1 ⟨rfl, b1⟩)
  go_ret
  exact ⟨rfl, b1⟩

set_option maxRecDepth 100000 in
set_option maxHeartbeats 2000000 in
theorem once_bad (bs : List UInt8) (n : Nat) (hn : bs.length = n) (A : Option Addr) (c : Nat) (hc : n ≤ c) (h : n ≤ 4000) (w : World) (hr : Rd w A (bs.map bv)) (he : (txGet bs).2.2 ≠ 0) : Calls Try.prog 4 #[.slice A n c] w fun e w' => e = .returned (.bool true) ∧ Below w.heap.size w w' := by
  have t1 : decide ((4000 : Int) < (n : Int)) = false := by simp; omega
  have HA := Lib.hid (awake8 w)
  have HG := fun w' hr' => TGet bs A n c hn hc (by omega) w' hr'
  obtain ⟨hT, hK⟩ := txGet_bad bs he
  rw [hT, hK, show ((0 : Nat) : Int) = 0 from rfl] at HG
  generalize (txGet bs).2.2 = E at *
  have t2 : ((E : Int) != 0) = true := by simp; omega
  replace HG := Lib.hid HG
  clear hT hK hn
  go_enter Try.func4, Try.ntmps4
  go_upto_region 4 with (go_at_call 6; refine (HA.out).mono ?_; rintro e w1 ⟨rfl, b1⟩)
  go_wp2_with fail
  refine (HG.out w1 (hr.below b1)).mono ?_
  rintro e w2 ⟨⟨v2, rfl, A1, A2, n1, n2, c1, c2, l, m, rfl, hl1, hl2, hc1, hc2, r1, r2, hm1, hm2, hv, hlk⟩, b2⟩
  have hn1 : n1 = 0 := by
    have := congrArg List.length hm1
    rw [List.length_map, hl1] at this
    exact this
  subst hn1
  have bw2 : Below w.heap.size w w2 := b1.trans (b2.mono b1.size)
  clear hl1 hl2 hm1 hm2 r1 r2 HG
  go_upto_region 5 with (refine wpList_storeAv ((Below.refl w2.heap.size w2).alloc (Nat.le_refl _) _) (heap_alloc_new _ _) (Nat.le_refl _) rfl _ _ _ rfl rfl [.int .u32 0, .slice A1 0 c1, .slice A2 n2 c2, .int .u32 0] rfl 4 rfl (by kernel_rfl) rfl rfl ?_; intro w3 a3 b3 k3 z3; clear k3; replace z3 := Lib.hid z3)
  have hc3 := a3.cell 1 _ rfl
  go_wp2
  go_ret
  exact ⟨rfl, bw2.trans (b3.mono bw2.size)⟩

set_option maxRecDepth 100000 in
set_option maxHeartbeats 4000000 in
theorem once_fine (bs : List UInt8) (n : Nat) (hn : bs.length = n) (A : Option Addr) (c : Nat) (hc : n ≤ c) (h : n ≤ 4000) (w : World) (hr : Rd w A (bs.map bv)) (he : (txGet bs).2.2 = 0) : Calls Try.prog 4 #[.slice A n c] w fun e w' => e = .returned (.bool true) ∧ Below w.heap.size w w' := by
  have t1 : decide ((4000 : Int) < (n : Int)) = false := by simp; omega
  have HA := Lib.hid (awake8 w)
  have HG := fun w' hr' => TGet bs A n c hn hc (by omega) w' hr'
  obtain ⟨hK, hS, hB⟩ := txGet_ok bs he
  rw [he, show ((0 : Nat) : Int) = 0 from rfl] at HG
  generalize (txGet bs).2.1 = K at *
  generalize (txGet bs).1 = T at *
  rw [hn] at hK
  replace HG := Lib.hid HG
  have k0 : (0 : Int) ≤ (K : Int) := by omega
  have k1 : (K : Int) ≤ (n : Int) := by omega
  have k2 : (K : Int) ≤ (c : Int) := by omega
  have t3 : decide ((K : Int) ≤ (n : Int)) = true := by simp; omega
  replace hn := Lib.hid hn
  clear he
  go_enter Try.func4, Try.ntmps4
  go_upto_region 4 with (go_at_call 6; refine (HA.out).mono ?_; rintro e w1 ⟨rfl, b1⟩)
  go_wp2_with fail
  refine (HG.out w1 (hr.below b1)).mono ?_
  rintro e w2 ⟨⟨v2, rfl, A1, A2, n1, n2, c1, c2, l, m, rfl, hl1, hl2, hc1, hc2, r1, r2, hm1, hm2, hv, hlk⟩, b2⟩
  have bw2 : Below w.heap.size w w2 := b1.trans (b2.mono b1.size)
  have hT : txOf T.ver l m T.lock = T := by rw [txOf, hm1, hm2]
  have HS := fun w' q1 q2 => TSane T.ver T.lock l m A1 A2 n1 n2 c1 c2 hl1 hl2 w' q1 q2
  have HP := fun w' q1 q2 => TPut_ok T.ver T.lock hv hlk l m A1 A2 n1 n2 c1 c2 hl1 hl2 w' q1 q2 (by rw [hT]; exact hS)
  rw [hT] at HS HP
  rw [hS] at HS
  rw [hB] at HP
  have htl : (bs.take K).length = K := by rw [List.length_take, hn.out]; omega
  obtain ⟨ps, hps⟩ : ∃ ps, ps = bs.take K := ⟨_, rfl⟩
  rw [← hps] at HP htl
  have hrt := fun w' (hE : Below w.heap.size w w') => (hr.below hE).take K
  rw [← List.map_take, ← hps] at hrt
  replace HS := Lib.hid HS
  replace HP := Lib.hid HP
  replace hps := Lib.hid hps
  replace hrt := Lib.hid hrt
  replace htl := Lib.hid htl
  clear hS hB hT hl1 hl2 hm1 hm2 hv hlk HG
  generalize (T.ver : Int) = V at *
  generalize (T.lock : Int) = X at *
  go_upto_region 5 with (refine wpList_storeAv ((Below.refl w2.heap.size w2).alloc (Nat.le_refl _) _) (heap_alloc_new _ _) (Nat.le_refl _) rfl _ _ _ rfl rfl [.int .u32 V, .slice A1 n1 c1, .slice A2 n2 c2, .int .u32 X] rfl 4 rfl (by kernel_rfl) rfl rfl ?_; intro w3 a3 b3 k3 z3; clear k3; replace z3 := Lib.hid z3)
  have bw3 : Below w.heap.size w w3 := bw2.trans (b3.mono bw2.size)
  have q1 := r1.below b3
  have q2 := r2.below b3
  replace r1 := Lib.hid r1
  replace r2 := Lib.hid r2
  go_wp2_with (refine wpList_loadAv a3 rfl _ _ rfl rfl _ 4 rfl Try.underlying36 rfl (by kernel_rfl) ?_)
  refine (HP.out w3 q1 q2).mono ?_
  rintro e w4 ⟨v4, rfl, ho, b4⟩
  obtain ⟨A4, c4, rfl, hc4, _⟩ := ho.formN K htl.out
  have bw4 : Below w.heap.size w w4 := bw3.trans (b4.mono bw3.size)
  have a4 := a3.below b4
  have s1 := q1.below b4
  have s2 := q2.below b4
  go_upto_region 8 with fail
  have H1 : ∀ w', Ext w4.drew w' → Below w.heap.size w w' := fun w' hE => bw4.trans (hE.drew.mono bw4.size)
  refine wp_region_relT 24 [] Ext (by kernel_rfl) (by kernel_rfl) (by kernel_rfl) (by kernel_rfl) (by kernel_rfl) Ext.refl Ext.trans (by intro p hp; cases hp) ?_
  refine relMove Ext.refl rfl rfl rfl rfl _ (.inl rfl) (by conv => lhs; whnf) (by simp only [List.set_cons_succ, List.set_cons_zero]; rfl) ?_
  refine relMove Ext.refl rfl rfl rfl rfl _ (.inl rfl) (by conv => lhs; whnf) (by simp only [List.set_cons_succ, List.set_cons_zero]; rfl) ?_
  refine relMove Ext.refl rfl rfl rfl rfl _ (.inl rfl) (by conv => lhs; whnf) (by simp only [List.set_cons_succ, List.set_cons_zero]; rfl) ?_
  refine relMove Ext.refl rfl rfl rfl rfl _ (.inl rfl) (by conv => lhs; whnf) (by simp only [List.set_cons_succ, List.set_cons_zero]; rfl) ?_
  refine relPure Ext.refl rfl rfl rfl rfl (fun w _ => by go_simp; first | done | rfl) (by simp only [List.set_cons_succ, List.set_cons_zero]; rfl) ?_
  refine relPure Ext.refl rfl rfl rfl rfl (c := .bool true) (fun w _ => by go_simp; first | done | rfl) (by simp only [List.set_cons_succ, List.set_cons_zero]; rfl) ?_
  refine relPick Ext.refl rfl rfl rfl rfl _ _ _ rfl rfl (by conv => lhs; whnf) (by simp only [List.set_cons_succ, List.set_cons_zero]; rfl) ?_
  refine relMove Ext.refl rfl rfl rfl rfl _ (.inl rfl) (by conv => lhs; whnf) (by simp only [List.set_cons_succ, List.set_cons_zero]; rfl) ?_
  refine relMove Ext.refl rfl rfl rfl rfl _ (.inl rfl) (by conv => lhs; whnf) (by simp only [List.set_cons_succ, List.set_cons_zero]; rfl) ?_
  refine relPure Ext.refl rfl rfl rfl rfl (fun w _ => by go_simp; first | done | rfl) (by simp only [List.set_cons_succ, List.set_cons_zero]; rfl) ?_
  refine relPick Ext.refl rfl rfl rfl rfl _ _ _ rfl rfl (by conv => lhs; whnf) (by simp only [List.set_cons_succ, List.set_cons_zero]; rfl) ?_
  refine relMove Ext.refl rfl rfl rfl rfl _ (.inl rfl) (by conv => lhs; whnf) (by simp only [List.set_cons_succ, List.set_cons_zero]; rfl) ?_
  refine relPure Ext.refl rfl rfl rfl rfl (c := .agg #[.int .u32 V, .slice A1 n1 c1, .slice A2 n2 c2, .int .u32 X]) (fun w hw => exec_loadAv (a4.below hw.drew) _ _ rfl rfl _ 4 rfl Try.underlying36 rfl (by kernel_rfl)) (by simp only [List.set_cons_succ, List.set_cons_zero]; rfl) ?_
  refine relCall1 rfl rfl rfl rfl (c := .bool true) 10 #[.agg #[.int .u32 V, .slice A1 n1 c1, .slice A2 n2 c2, .int .u32 X]] (fun w => by go_simp) (fun w hw => (HS.out w (s1.below hw.drew) (s2.below hw.drew)).mono ?_) (by simp only [List.set_cons_succ, List.set_cons_zero]; rfl) ?_
  · rintro e w' ⟨rfl, hb⟩
    exact ⟨rfl, hb⟩
  refine relPick Ext.refl rfl rfl rfl rfl _ _ _ rfl rfl (by conv => lhs; whnf) (by simp only [List.set_cons_succ, List.set_cons_zero]; rfl) ?_
  refine relMove Ext.refl rfl rfl rfl rfl _ (.inl rfl) (by conv => lhs; whnf) (by simp only [List.set_cons_succ, List.set_cons_zero]; rfl) ?_
  refine relMove Ext.refl rfl rfl rfl rfl _ (.inl rfl) (by conv => lhs; whnf) (by simp only [List.set_cons_succ, List.set_cons_zero]; rfl) ?_
  refine relStr rfl rfl rfl rfl _ rfl (by conv => lhs; whnf) ps htl.out (fun w hw => (ho.below hw.drew).rd) (by simp only [List.set_cons_succ, List.set_cons_zero]; rfl) ?_
  refine relMove Ext.refl rfl rfl rfl rfl _ (.inl rfl) (by conv => lhs; whnf) (by simp only [List.set_cons_succ, List.set_cons_zero]; rfl) ?_
  refine relMove Ext.refl rfl rfl rfl rfl _ (.inl rfl) (by conv => lhs; whnf) (by simp only [List.set_cons_succ, List.set_cons_zero]; rfl) ?_
  refine relPure Ext.refl rfl rfl rfl rfl (c := .slice A K c) (fun w hw => by go_simp; first | done | rfl) (by simp only [List.set_cons_succ, List.set_cons_zero]; rfl) ?_
  refine relStr rfl rfl rfl rfl _ rfl (by conv => lhs; whnf) ps htl.out (fun w hw => hrt.out w (H1 w hw)) (by simp only [List.set_cons_succ, List.set_cons_zero]; rfl) ?_
  refine relBin Ext.refl rfl rfl rfl rfl _ _ _ _ _ rfl (by conv => lhs; whnf) (by conv => lhs; whnf) (c := .bool true) (fun w => by go_simp) (by simp only [List.set_cons_succ, List.set_cons_zero]; rfl) ?_
  refine relPick Ext.refl rfl rfl rfl rfl _ _ _ rfl rfl (by conv => lhs; whnf) (by simp only [List.set_cons_succ, List.set_cons_zero]; rfl) ?_
  refine relEnd fun w5 hw5 => fill_end ?_
  simp only [List.drop_succ_cons, List.drop_zero]
  go_wp2
  go_ret
  exact ⟨rfl, H1 w5 hw5⟩
theorem law_TxOnce (bs : List UInt8) (A : Option Addr) (n c : Nat) (w : World) (hr : Rd w A (bs.map bv)) (hn : bs.length = n) (hc : n ≤ c) : Calls Try.prog 4 #[.slice A n c] w fun e w' => e = .returned (.bool true) ∧ Below w.heap.size w w' := by
  by_cases h : 4000 < n
  · exact once_long n A c h w
  · by_cases he : (txGet bs).2.2 = 0
    · exact once_fine bs n hn A c hc (by omega) w hr he
    · exact once_bad bs n hn A c hc (by omega) w hr he
end Go.Proofs.Ytopgljkfoogihaa
