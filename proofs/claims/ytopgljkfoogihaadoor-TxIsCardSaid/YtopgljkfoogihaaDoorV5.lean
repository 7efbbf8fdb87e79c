/- florinref08: Id, Touches. -/
import Derived.Test.YtopgljkfoogihaaDoorTxI
import Derived.Test.YtopgljkfoogihaaDoorV1
import Derived.Test.YtopgljkfoogihaaDoorRgs
import Derived.Test.YtopgljkfoogihaaDoorBss
namespace Go.Proofs.YtopgljkfoogihaaDoor
open Go.RowKit
attribute [local go_sem high] slB_lh slB_l slB_h
theorem eqlPg (x y : List UInt8) (hx : x.length = 32) (hy : y.length = 32) (p q : Operand) (w : World) : (do eqGuard .eql 39 p q (.agg (hcs x)) (.agg (hcs y)); binOp .eql 39 (.agg (hcs x)) (.agg (hcs y)) : Sem Value).run Tryd.prog w = .ok (.bool (x == y)) w := by
  rw [Sem.run_bind, show (eqGuard .eql 39 p q (.agg (hcs x)) (.agg (hcs y))).run Tryd.prog w = .ok () w by go_simp]
  simpa using eqlP x y hx hy w
set_option maxRecDepth 100000 in
set_option maxHeartbeats 2000000 in
theorem IdR_bad (ver lock : Nat) (_ : ver < 4294967296) (_ : lock < 4294967296) (l : List (TIn × Sl)) (m : List (TOut × Sl)) (A1 A2 : Option Addr) (n1 n2 c1 c2 : Nat) (hn1 : l.length = n1) (hn2 : m.length = n2) (w : World) (h1 : RdIns w A1 l) (h2 : RdOuts w A2 m) (hm1 : n1 ≤ maxLen) (hm2 : n2 ≤ maxLen) (hs : txSane (txOf ver l m lock) = false) :
    Calls Tryd.prog 16 #[.agg #[.int .u32 (ver : Int), .slice A1 n1 c1, .slice A2 n2 c2, .int .u32 (lock : Int)]] w fun e w' => e = .returned (.tuple #[.agg (hcs zeroH), .int .i64 3]) ∧ Below w.heap.size w w' := by
  have hz := zeros_32
  have hzl : (List.replicate 32 (0 : UInt8)).length = 32 := by simp
  obtain ⟨zs, hzs⟩ : ∃ zs : List UInt8, zs = List.replicate 32 0 := ⟨_, rfl⟩
  rw [← hzs] at hz hzl
  have hzz : zeroH = zs := hzs.symm
  clear hzs
  replace hzl := Lib.hid hzl
  replace hzz := Lib.hid hzz
  obtain ⟨W, hW⟩ : ∃ W, W = ((w.alloc (.cells #[.int .u32 (ver : Int), .slice A1 n1 c1, .slice A2 n2 c2, .int .u32 (lock : Int)] 26)).alloc (.cells (zs.map bv).toArray 39)) := ⟨_, rfl⟩
  obtain ⟨H, hH⟩ : ∃ H, H = w.heap.size := ⟨_, rfl⟩
  have bW : Below w.heap.size w W := by rw [hW]; exact ((Below.refl _ _).alloc (Nat.le_refl _) _).alloc (by simp) _
  have aW : Av W H 26 [.int .u32 (ver : Int), .slice A1 n1 c1, .slice A2 n2 c2, .int .u32 (lock : Int)] := by rw [hW, hH]; exact heap_alloc2_old _ _ _
  have zW : Av W (H + 1) 39 (zs.map bv) := by rw [hW, hH]; exact heap_alloc2_new _ _ _
  replace hW := Lib.hid hW
  replace hH := Lib.hid hH
  have HP := Lib.hid (fun w' q1 q2 => PutR_bad ver lock l m A1 A2 n1 n2 c1 c2 hn1 hn2 w' q1 q2 hm1 hm2 hs)
  clear hs hn1 hn2
  go_enter Tryd.func16, Tryd.ntmps16
  go_upto_region 1 with fail
  rw [← hW.out, ← hH.out]
  go_upto_region 3 with (first
    | ((with_reducible refine wpList_loadF 26 aW ?_ _ 4 ?_ Tryd.underlying26 ?_ ?_ ?_); rfl; rfl; rfl; kernel_rfl)
    | (go_at_call 13; refine (HP.out _ (h1.below bW) (h2.below bW)).mono ?_; rintro e w4 ⟨rfl, b4⟩))
  have bw4 := bW.trans (b4.mono bW.size)
  have z4 := zW.below b4
  have hH4 : w.heap.size ≤ H + 1 := by rw [hH.out]; omega
  go_wp2_with (refine wpList_storeAv bw4 z4 hH4 rfl _ _ _ rfl rfl (zs.map bv) rfl 32 (by rw [List.length_map, hzl.out]) (by kernel_rfl) (by rw [List.size_toArray, List.length_map]; exact hzl.out) (by simp [Value.oneCell']) ?_; intro w6 a6 b6 k6 z6)
  refine bodyPost_ret (v := .tuple #[.agg (zs.map bv).toArray, .int .i64 3]) ((results_cellAv1 (C := zs.map bv) (by rfl) (by rfl) a6 _ Tryd.underlying39 rfl 32 (by rw [List.length_map, hzl.out]) (by kernel_rfl)).trans (by rfl)) (by rfl) ?_
  exact ⟨by rw [hzz.out], b6⟩
set_option maxRecDepth 100000 in
set_option maxHeartbeats 2000000 in
theorem IdR_ok (ver lock : Nat) (hv : ver < 4294967296) (hlk : lock < 4294967296) (l : List (TIn × Sl)) (m : List (TOut × Sl)) (A1 A2 : Option Addr) (n1 n2 c1 c2 : Nat) (hn1 : l.length = n1) (hn2 : m.length = n2) (w : World) (h1 : RdIns w A1 l) (h2 : RdOuts w A2 m) (hs : txSane (txOf ver l m lock) = true) :
    Calls Tryd.prog 16 #[.agg #[.int .u32 (ver : Int), .slice A1 n1 c1, .slice A2 n2 c2, .int .u32 (lock : Int)]] w fun e w' => e = .returned (.tuple #[.agg (hcs (dblB (txB (txOf ver l m lock)))), .int .i64 0]) ∧ Below w.heap.size w w' := by
  have hz := zeros_32
  have hzl : (List.replicate 32 (0 : UInt8)).length = 32 := by simp
  obtain ⟨zs, hzs⟩ : ∃ zs : List UInt8, zs = List.replicate 32 0 := ⟨_, rfl⟩
  rw [← hzs] at hz hzl
  have hzz : zeroH = zs := hzs.symm
  clear hzs
  replace hzl := Lib.hid hzl
  replace hzz := Lib.hid hzz
  obtain ⟨W, hW⟩ : ∃ W, W = ((w.alloc (.cells #[.int .u32 (ver : Int), .slice A1 n1 c1, .slice A2 n2 c2, .int .u32 (lock : Int)] 26)).alloc (.cells (zs.map bv).toArray 39)) := ⟨_, rfl⟩
  obtain ⟨H, hH⟩ : ∃ H, H = w.heap.size := ⟨_, rfl⟩
  have bW : Below w.heap.size w W := by rw [hW]; exact ((Below.refl _ _).alloc (Nat.le_refl _) _).alloc (by simp) _
  have aW : Av W H 26 [.int .u32 (ver : Int), .slice A1 n1 c1, .slice A2 n2 c2, .int .u32 (lock : Int)] := by rw [hW, hH]; exact heap_alloc2_old _ _ _
  have zW : Av W (H + 1) 39 (zs.map bv) := by rw [hW, hH]; exact heap_alloc2_new _ _ _
  replace hW := Lib.hid hW
  replace hH := Lib.hid hH
  have HP := Lib.hid (fun w' q1 q2 => PutR_ok ver lock hv hlk l m A1 A2 n1 n2 c1 c2 hn1 hn2 w' q1 q2 hs)
  have hmost := txB_most2 (txOf ver l m lock) hs (by
    intro i hi
    obtain ⟨x, hx, rfl⟩ := List.mem_map.1 hi
    exact (h1.2 x hx).1)
  obtain ⟨ps, hps⟩ : ∃ ps, ps = txB (txOf ver l m lock) := ⟨_, rfl⟩
  rw [← hps] at HP hmost ⊢
  obtain ⟨K, hK⟩ : ∃ K, K = ps.length := ⟨_, rfl⟩
  rw [← hK] at hmost
  obtain ⟨dd, hdd⟩ : ∃ l, l = dblB ps := ⟨_, rfl⟩
  have hdl : dd.length = 32 := by rw [hdd, dblB_length]
  rw [← hdd]
  have HD := fun A c w' q => DoubleR ps A K c hK.symm (by omega) w' q
  rw [← hdd] at HD
  replace HD := Lib.hid HD
  replace hdl := Lib.hid hdl
  replace hdd := Lib.hid hdd
  replace hK := Lib.hid hK
  replace hps := Lib.hid hps
  clear hs hn1 hn2
  go_enter Tryd.func16, Tryd.ntmps16
  go_upto_region 1 with fail
  rw [← hW.out, ← hH.out]
  go_upto_region 4 with (first
    | ((with_reducible refine wpList_loadF 26 aW ?_ _ 4 ?_ Tryd.underlying26 ?_ ?_ ?_); rfl; rfl; rfl; kernel_rfl)
    | (go_at_call 13; refine (HP.out _ (h1.below bW) (h2.below bW)).mono ?_; rintro e w4 ⟨v4, rfl, ho, b4⟩; obtain ⟨A4, c4, rfl, _, _⟩ := ho.formN K hK.out.symm))
  have bw4 := bW.trans (b4.mono bW.size)
  have z4 := zW.below b4
  have hH4 : w.heap.size ≤ H + 1 := by rw [hH.out]; omega
  have hr4 := ho.rd
  clear ho
  go_wp2_with fail
  refine (HD.out A4 c4 w4 hr4).mono ?_
  rintro e w5 ⟨rfl, b5⟩
  have bw5 := bw4.trans (b5.mono bw4.size)
  have z5 := z4.below b5
  go_wp2_with (refine wpList_storeAv bw5 z5 hH4 rfl _ _ _ rfl rfl (dd.map bv) rfl 32 (by rw [List.length_map, hdl.out]) (by kernel_rfl) (by rw [List.size_toArray, List.length_map]; exact hzl.out) (by simp [Value.oneCell']) ?_; intro w6 a6 b6 k6 z6)
  refine bodyPost_ret (v := .tuple #[.agg (dd.map bv).toArray, .int .i64 0]) ((results_cellAv1 (C := dd.map bv) (by rfl) (by rfl) a6 _ Tryd.underlying39 rfl 32 (by rw [List.length_map, hdl.out]) (by kernel_rfl)).trans (by rfl)) (by rfl) ?_
  exact ⟨rfl, b6⟩
set_option maxRecDepth 100000 in
set_option maxHeartbeats 4000000 in
theorem TouchR (ver lock : Nat) (l : List (TIn × Sl)) (m : List (TOut × Sl)) (A1 A2 : Option Addr) (n1 n2 c1 c2 : Nat) (hn1 : l.length = n1) (hn2 : m.length = n2) (hm1 : n1 ≤ 100000) (hm2 : n2 ≤ 100000) (S : List (List UInt8 × Sl)) (As : Option Addr) (ns cs : Nat) (hns : S.length = ns) (hms : ns ≤ 100000)
    (Hs : List (List UInt8)) (Ah : Option Addr) (nh ch : Nat) (hnh : Hs.length = nh) (hmh : nh ≤ 100000) (w : World) (h1 : RdIns w A1 l) (h2 : RdOuts w A2 m) (rs : RdBss w As S) (rh : RdHs w Ah Hs) (b : Bool) (hb : txT (txOf ver l m lock) (S.map (·.1)) Hs = b) :
    Calls Tryd.prog 20 #[.agg #[.int .u32 (ver : Int), .slice A1 n1 c1, .slice A2 n2 c2, .int .u32 (lock : Int)], .slice As ns cs, .slice Ah nh ch] w fun e w' => e = .returned (.bool b) ∧ Below w.heap.size w w' := by
  obtain ⟨W, hW⟩ : ∃ W, W = w.alloc (.cells #[.int .u32 (ver : Int), .slice A1 n1 c1, .slice A2 n2 c2, .int .u32 (lock : Int)] 26) := ⟨_, rfl⟩
  obtain ⟨H, hH⟩ : ∃ H, H = w.heap.size := ⟨_, rfl⟩
  have bW : Below w.heap.size w W := by rw [hW]; exact (Below.refl _ _).alloc (Nat.le_refl _) _
  have aW : Av W H 26 [.int .u32 (ver : Int), .slice A1 n1 c1, .slice A2 n2 c2, .int .u32 (lock : Int)] := by rw [hW, hH]; exact heap_alloc_new _ _
  replace hn1 := Lib.hid hn1
  replace hn2 := Lib.hid hn2
  replace hns := Lib.hid hns
  replace hnh := Lib.hid hnh
  replace hW := Lib.hid hW
  replace hH := Lib.hid hH
  replace hb := Lib.hid hb
  have q2 := aW.cell 2 _ rfl
  go_enter Tryd.func20, Tryd.ntmps20
  go_upto_region 1 with fail
  rw [← hW.out, ← hH.out]
  go_wp2
  clear q2
  go_loopw [7, 8] (fun i _ wr => ∃ k : Nat, k ≤ n2 ∧ i = .int .i64 (k : Int) ∧ Hid (∀ e ∈ m.take k, ∀ s ∈ S, e.1.scr ≠ s.1) ∧ Below W.heap.size W wr) (fun i _ _ => n2 - (intOf i).toNat)
  case atStart => exact ⟨0, by omega, rfl, Lib.hid (by simp), Below.refl _ _⟩
  case round =>
    obtain ⟨k, hk, rfl, hall, bk⟩ := hrel
    have bw0 : Below w.heap.size w wr := bW.trans (bk.mono bW.size)
    have q2 := (aW.below bk).cell 2 _ rfl
    by_cases hlt : k < n2
    · have t4 : decide ((k : Int) < (n2 : Int)) = true := by simp; omega
      obtain ⟨x, hx⟩ : ∃ x, m[k]? = some x := ⟨_, List.getElem?_eq_getElem (by rw [hn2.out]; exact hlt)⟩
      obtain ⟨b1, o1, rfl⟩ := h2.adr (by rw [hn2.out]; omega)
      obtain ⟨xs, hxs⟩ : ∃ s, s = x.1.scr := ⟨_, rfl⟩
      obtain ⟨xl, hxl⟩ : ∃ s, s = x.1.scr.length := ⟨_, rfl⟩
      have hxl2 : xs.length = xl := by rw [hxs, hxl]
      have hxo : outc x = [.int .u64 (x.1.val : Int), .slice x.2.1 xl x.2.2] := by rw [hxl]; rfl
      have m0 : 0 ≤ (k : Int) := by omega
      have m1 : (k : Int) < (n2 : Int) := by omega
      clear hxl
      replace hx := Lib.hid hx
      replace hxs := Lib.hid hxs
      replace hxl2 := Lib.hid hxl2
      replace hxo := Lib.hid hxo
      go_wp2
      clear q2
      go_loopw [8] (fun i wr => ∃ j : Nat, j ≤ ns ∧ i = .int .i64 (j : Int) ∧ Hid (∀ s ∈ S.take j, xs ≠ s.1) ∧ Below W.heap.size W wr) (fun i _ => ns - (intOf i).toNat)
      case atStart => exact ⟨0, by omega, rfl, Lib.hid (by simp), bk⟩
      case round =>
        clear bk bw0
        obtain ⟨j, hj, rfl, hin, bq⟩ := hrel
        have bw0 : Below w.heap.size w wr := bW.trans (bq.mono bW.size)
        by_cases hlt2 : j < ns
        · have t5 : decide ((j : Int) < (ns : Int)) = true := by simp; omega
          obtain ⟨s, hs⟩ : ∃ s, S[j]? = some s := ⟨_, List.getElem?_eq_getElem (by rw [hns.out]; exact hlt2)⟩
          obtain ⟨b2, o2, rfl⟩ := rs.adr (by rw [hns.out]; omega)
          have aq := aW.below bq
          have hx1 : ∀ w', Below wr.heap.size wr w' → w'.cell? ⟨b1, o1 + k * 2 + 1, none⟩ = some (.slice x.2.1 xl x.2.2) := fun w' hE => ((h2.below (bw0.trans (hE.mono bw0.size))).nth k x hx.out).1 1 _ (by rw [hxo.out]; rfl)
          have hsx : ∀ w', Below wr.heap.size wr w' → Rd w' x.2.1 (xs.map bv) := fun w' hE => by rw [hxs.out]; exact ((h2.below (bw0.trans (hE.mono bw0.size))).nth k x hx.out).2.2.1
          obtain ⟨ss, hse⟩ : ∃ ss, ss = s.1 := ⟨_, rfl⟩
          obtain ⟨sl, hsl⟩ : ∃ n, n = s.1.length := ⟨_, rfl⟩
          have hsl2 : ss.length = sl := by rw [hse, hsl]
          have hs1 : ∀ w', Below wr.heap.size wr w' → w'.cell? ⟨b2, o2 + j, none⟩ = some (.slice s.2.1 sl s.2.2) := fun w' hE => by rw [hsl]; exact ((rs.below (bw0.trans (hE.mono bw0.size))).nth j s hs).1
          have hss : ∀ w', Below wr.heap.size wr w' → Rd w' s.2.1 (ss.map bv) := fun w' hE => by rw [hse]; exact ((rs.below (bw0.trans (hE.mono bw0.size))).nth j s hs).2.1
          have heq := fun x y => strEq1 (a := xs) (b := ss) x y
          obtain ⟨q, hq⟩ : ∃ q, (xs == ss) = q := ⟨_, rfl⟩
          rw [hq] at heq
          have m2 : 0 ≤ (j : Int) := by omega
          have m3 : (j : Int) < (ns : Int) := by omega
          clear hsl
          replace hs := Lib.hid hs
          replace hq := Lib.hid hq
          replace heq := Lib.hid heq
          replace hx1 := Lib.hid hx1
          replace hsx := Lib.hid hsx
          replace hs1 := Lib.hid hs1
          replace hss := Lib.hid hss
          replace hse := Lib.hid hse
          replace hsl2 := Lib.hid hsl2
          go_upto_region 7 with fail
          cases q
          · refine wp_region_rel [] Ext (by kernel_rfl) (by kernel_rfl) (by kernel_rfl) Ext.refl Ext.trans (by intro p hp; cases hp) ?_
            refine relPure Ext.refl rfl rfl rfl rfl (fun w _ => by go_simp; first | done | rfl) (by simp only [List.set_cons_succ, List.set_cons_zero]; rfl) ?_
            refine relPure Ext.refl rfl rfl rfl rfl (c := .slice (some ⟨b1, o1, none⟩) n2 c2) (fun w hw => by have := (aq.below hw.drew).cell 2 _ rfl; go_simp; first | done | rfl) (by simp only [List.set_cons_succ, List.set_cons_zero]; rfl) ?_
            refine relMove Ext.refl rfl rfl rfl rfl _ (.inl rfl) (by conv => lhs; whnf) (by simp only [List.set_cons_succ, List.set_cons_zero]; rfl) ?_
            refine relPure Ext.refl rfl rfl rfl rfl (c := .pointer (some ⟨b1, o1 + k * 2, none⟩)) (fun w _ => by have := m0; have := m1; go_simp; first | done | rfl) (by simp only [List.set_cons_succ, List.set_cons_zero]; rfl) ?_
            refine relPure Ext.refl rfl rfl rfl rfl (c := .pointer (some ⟨b1, o1 + k * 2 + 1, none⟩)) (fun w _ => by go_simp; first | done | rfl) (by simp only [List.set_cons_succ, List.set_cons_zero]; rfl) ?_
            refine relPure Ext.refl rfl rfl rfl rfl (c := .slice x.2.1 xl x.2.2) (fun w hw => by have := hx1.out w hw.drew; go_simp; first | done | rfl) (by simp only [List.set_cons_succ, List.set_cons_zero]; rfl) ?_
            refine relStr rfl rfl rfl rfl _ rfl rfl xs hxl2.out (fun w hw => hsx.out w hw.drew) (by simp only [List.set_cons_succ, List.set_cons_zero]; rfl) ?_
            refine relMove Ext.refl rfl rfl rfl rfl _ (.inl rfl) (by conv => lhs; whnf) (by simp only [List.set_cons_succ, List.set_cons_zero]; rfl) ?_
            refine relMove Ext.refl rfl rfl rfl rfl _ (.inl rfl) (by conv => lhs; whnf) (by simp only [List.set_cons_succ, List.set_cons_zero]; rfl) ?_
            refine relPure Ext.refl rfl rfl rfl rfl (c := .pointer (some ⟨b2, o2 + j, none⟩)) (fun w _ => by have := m2; have := m3; go_simp; first | done | rfl) (by simp only [List.set_cons_succ, List.set_cons_zero]; rfl) ?_
            refine relPure Ext.refl rfl rfl rfl rfl (c := .slice s.2.1 sl s.2.2) (fun w hw => by have := hs1.out w hw.drew; go_simp; first | done | rfl) (by simp only [List.set_cons_succ, List.set_cons_zero]; rfl) ?_
            refine relStr rfl rfl rfl rfl _ rfl rfl ss hsl2.out (fun w hw => hss.out w hw.drew) (by simp only [List.set_cons_succ, List.set_cons_zero]; rfl) ?_
            refine relBin Ext.refl rfl rfl rfl rfl _ _ _ _ _ rfl (by conv => lhs; whnf) (by conv => lhs; whnf) (c := .bool false) (fun w => heq.out _ _ w) (by simp only [List.set_cons_succ, List.set_cons_zero]; rfl) ?_
            refine relEnd fun w6 hw6 => fill_end ?_
            have bq6 := bq.trans (hw6.drew.mono bq.size)
            go_wp2
            go_roundw
            case rel =>
              refine ⟨j + 1, by omega, by go_num, Lib.hid ?_, bq6⟩
              intro s' hs'
              rcases mem_take_succ hs.out hs' with h | rfl
              · exact hin.out s' h
              · exact fun e => by have := hq.out; rw [hse.out, e] at this; simp at this
            case measure => simp [intOf]; omega
          · obtain rfl : b = true := by
              rw [← hb.out, txT, Bool.or_eq_true]
              refine .inl (outT_yes (o := x.1) (s := s.1) (List.mem_map.2 ⟨x, List.mem_of_getElem? hx.out, rfl⟩) (List.mem_map.2 ⟨s, List.mem_of_getElem? hs.out, rfl⟩) ?_)
              rw [← hxs.out, ← hse.out]
              exact eq_of_beq hq.out
            refine wp_region_rel [] Ext (by kernel_rfl) (by kernel_rfl) (by kernel_rfl) Ext.refl Ext.trans (by intro p hp; cases hp) ?_
            refine relPure Ext.refl rfl rfl rfl rfl (fun w _ => by go_simp; first | done | rfl) (by simp only [List.set_cons_succ, List.set_cons_zero]; rfl) ?_
            refine relPure Ext.refl rfl rfl rfl rfl (c := .slice (some ⟨b1, o1, none⟩) n2 c2) (fun w hw => by have := (aq.below hw.drew).cell 2 _ rfl; go_simp; first | done | rfl) (by simp only [List.set_cons_succ, List.set_cons_zero]; rfl) ?_
            refine relMove Ext.refl rfl rfl rfl rfl _ (.inl rfl) (by conv => lhs; whnf) (by simp only [List.set_cons_succ, List.set_cons_zero]; rfl) ?_
            refine relPure Ext.refl rfl rfl rfl rfl (c := .pointer (some ⟨b1, o1 + k * 2, none⟩)) (fun w _ => by have := m0; have := m1; go_simp; first | done | rfl) (by simp only [List.set_cons_succ, List.set_cons_zero]; rfl) ?_
            refine relPure Ext.refl rfl rfl rfl rfl (c := .pointer (some ⟨b1, o1 + k * 2 + 1, none⟩)) (fun w _ => by go_simp; first | done | rfl) (by simp only [List.set_cons_succ, List.set_cons_zero]; rfl) ?_
            refine relPure Ext.refl rfl rfl rfl rfl (c := .slice x.2.1 xl x.2.2) (fun w hw => by have := hx1.out w hw.drew; go_simp; first | done | rfl) (by simp only [List.set_cons_succ, List.set_cons_zero]; rfl) ?_
            refine relStr rfl rfl rfl rfl _ rfl rfl xs hxl2.out (fun w hw => hsx.out w hw.drew) (by simp only [List.set_cons_succ, List.set_cons_zero]; rfl) ?_
            refine relMove Ext.refl rfl rfl rfl rfl _ (.inl rfl) (by conv => lhs; whnf) (by simp only [List.set_cons_succ, List.set_cons_zero]; rfl) ?_
            refine relMove Ext.refl rfl rfl rfl rfl _ (.inl rfl) (by conv => lhs; whnf) (by simp only [List.set_cons_succ, List.set_cons_zero]; rfl) ?_
            refine relPure Ext.refl rfl rfl rfl rfl (c := .pointer (some ⟨b2, o2 + j, none⟩)) (fun w _ => by have := m2; have := m3; go_simp; first | done | rfl) (by simp only [List.set_cons_succ, List.set_cons_zero]; rfl) ?_
            refine relPure Ext.refl rfl rfl rfl rfl (c := .slice s.2.1 sl s.2.2) (fun w hw => by have := hs1.out w hw.drew; go_simp; first | done | rfl) (by simp only [List.set_cons_succ, List.set_cons_zero]; rfl) ?_
            refine relStr rfl rfl rfl rfl _ rfl rfl ss hsl2.out (fun w hw => hss.out w hw.drew) (by simp only [List.set_cons_succ, List.set_cons_zero]; rfl) ?_
            refine relBin Ext.refl rfl rfl rfl rfl _ _ _ _ _ rfl (by conv => lhs; whnf) (by conv => lhs; whnf) (c := .bool true) (fun w => heq.out _ _ w) (by simp only [List.set_cons_succ, List.set_cons_zero]; rfl) ?_
            refine relEnd fun w6 hw6 => fill_end ?_
            have bq6 := bw0.trans (hw6.drew.mono bw0.size)
            go_wp2
            go_ret
            exact ⟨rfl, bq6⟩
        · obtain rfl : ns = j := by omega
          have t5 : decide ((ns : Int) < (ns : Int)) = false := by simp
          go_wp2
          refine ⟨⟨k + 1, by omega, by go_num, Lib.hid ?_, bq⟩, ?_⟩
          · intro e he s hs
            rcases mem_take_succ hx.out he with h | rfl
            · exact hall.out e h s hs
            · rw [← hxs.out]
              exact hin.out s (by rw [List.take_of_length_le (by rw [hns.out]; omega)]; exact hs)
          · simp [intOf]; omega
    · obtain rfl : n2 = k := by omega
      have t4 : decide ((n2 : Int) < (n2 : Int)) = false := by simp
      have hno : outT (m.map (·.1)) (S.map (·.1)) = false := by
        refine outT_no fun o ho s hs => ?_
        obtain ⟨e, he, rfl⟩ := List.mem_map.1 ho
        obtain ⟨f, hf, rfl⟩ := List.mem_map.1 hs
        exact hall.out e (by rw [List.take_of_length_le (by rw [hn2.out]; omega)]; exact he) f hf
      replace hno := Lib.hid hno
      clear hall
      have q1 := (aW.below bk).cell 1 _ rfl
      go_wp2
      clear q1 bw0 q2
      go_loopw [9, 10] (fun i _ wr => ∃ k : Nat, k ≤ n1 ∧ i = .int .i64 (k : Int) ∧ Hid (∀ e ∈ l.take k, ∀ s ∈ Hs, e.1.prev ≠ s) ∧ Below W.heap.size W wr) (fun i _ _ => n1 - (intOf i).toNat)
      case atStart => exact ⟨0, by omega, rfl, Lib.hid (by simp), bk⟩
      case round =>
        clear bk
        obtain ⟨k, hk, rfl, hall, bk⟩ := hrel
        have bw0 : Below w.heap.size w wr := bW.trans (bk.mono bW.size)
        have q1 := (aW.below bk).cell 1 _ rfl
        by_cases hlt : k < n1
        · have t4 : decide ((k : Int) < (n1 : Int)) = true := by simp; omega
          obtain ⟨x, hx⟩ : ∃ x, l[k]? = some x := ⟨_, List.getElem?_eq_getElem (by rw [hn1.out]; exact hlt)⟩
          obtain ⟨b1, o1, rfl⟩ := h1.adr (by rw [hn1.out]; omega)
          have hix := ((h1.below bw0).nth k x hx).2
          have hp32 : x.1.prev.length = 32 := hix.1.1
          obtain ⟨xp, hxp⟩ : ∃ p, p = x.1.prev := ⟨_, rfl⟩
          have hinc : inc x = xp.map bv ++ [.int .u32 (x.1.idx : Int), slv x.1.scr.length x.2, .int .u32 (x.1.seq : Int)] := by rw [hxp]; rfl
          rw [← hxp] at hp32
          have xpv32 : (xp.map bv).length = 32 := by rw [List.length_map, hp32]
          have m0 : 0 ≤ (k : Int) := by omega
          have m1 : (k : Int) < (n1 : Int) := by omega
          clear hix
          replace hx := Lib.hid hx
          replace hxp := Lib.hid hxp
          replace hp32 := Lib.hid hp32
          replace xpv32 := Lib.hid xpv32
          replace hinc := Lib.hid hinc
          go_wp2
          clear q1
          go_loopw [10] (fun i wr => ∃ j : Nat, j ≤ nh ∧ i = .int .i64 (j : Int) ∧ Hid (∀ s ∈ Hs.take j, xp ≠ s) ∧ Below W.heap.size W wr) (fun i _ => nh - (intOf i).toNat)
          case atStart => exact ⟨0, by omega, rfl, Lib.hid (by simp), bk⟩
          case round =>
            clear bk bw0
            obtain ⟨j, hj, rfl, hin, bq⟩ := hrel
            have bw0 : Below w.heap.size w wr := bW.trans (bq.mono bW.size)
            by_cases hlt2 : j < nh
            · have t5 : decide ((j : Int) < (nh : Int)) = true := by simp; omega
              obtain ⟨sp, hs⟩ : ∃ s, Hs[j]? = some s := ⟨_, List.getElem?_eq_getElem (by rw [hnh.out]; exact hlt2)⟩
              obtain ⟨b2, o2, rfl⟩ := rh.adr (by rw [hnh.out]; omega)
              have aq := aW.below bq
              have hs32 : sp.length = 32 := rh.2 sp (List.mem_of_getElem? hs)
              have spv32 : (sp.map bv).length = 32 := by rw [List.length_map, hs32]
              have hxr : ∀ w', Below wr.heap.size wr w' → w'.rangeAt b1 (o1 + k * 35) (xp.map bv) := fun w' hE i v hv => ((h1.below (bw0.trans (hE.mono bw0.size))).nth k x hx.out).1 i v (by
                rw [hinc.out, List.getElem?_append_left (List.getElem?_eq_some_iff.1 hv).1]; exact hv)
              have hsr : ∀ w', Below wr.heap.size wr w' → w'.rangeAt b2 (o2 + j * 32) (sp.map bv) := fun w' hE => (rh.below (bw0.trans (hE.mono bw0.size))).nth j sp hs
              have heq := fun p q => eqlPg xp sp hp32.out hs32 p q
              obtain ⟨q, hq⟩ : ∃ q, (xp == sp) = q := ⟨_, rfl⟩
              rw [hq] at heq
              have m2 : 0 ≤ (j : Int) := by omega
              have m3 : (j : Int) < (nh : Int) := by omega
              replace hs := Lib.hid hs
              replace hq := Lib.hid hq
              replace heq := Lib.hid heq
              replace hs32 := Lib.hid hs32
              replace spv32 := Lib.hid spv32
              replace hxr := Lib.hid hxr
              replace hsr := Lib.hid hsr
              go_upto_region 15 with fail
              cases q
              · refine wp_region_rel [] Ext (by kernel_rfl) (by kernel_rfl) (by kernel_rfl) Ext.refl Ext.trans (by intro p hp; cases hp) ?_
                refine relPure Ext.refl rfl rfl rfl rfl (fun w _ => by go_simp; first | done | rfl) (by simp only [List.set_cons_succ, List.set_cons_zero]; rfl) ?_
                refine relPure Ext.refl rfl rfl rfl rfl (c := .slice (some ⟨b1, o1, none⟩) n1 c1) (fun w hw => by have := (aq.below hw.drew).cell 1 _ rfl; go_simp; first | done | rfl) (by simp only [List.set_cons_succ, List.set_cons_zero]; rfl) ?_
                refine relMove Ext.refl rfl rfl rfl rfl _ (.inl rfl) (by conv => lhs; whnf) (by simp only [List.set_cons_succ, List.set_cons_zero]; rfl) ?_
                refine relPure Ext.refl rfl rfl rfl rfl (c := .pointer (some ⟨b1, o1 + k * 35, none⟩)) (fun w _ => by have := m0; have := m1; go_simp; first | done | rfl) (by simp only [List.set_cons_succ, List.set_cons_zero]; rfl) ?_
                refine relPure Ext.refl rfl rfl rfl rfl (c := .pointer (some ⟨b1, o1 + k * 35, none⟩)) (fun w _ => by go_simp; first | done | rfl) (by simp only [List.set_cons_succ, List.set_cons_zero]; rfl) ?_
                refine relPure Ext.refl rfl rfl rfl rfl (c := .agg (hcs xp)) (fun w hw => exec_load_mid _ _ rfl b1 (o1 + k * 35) rfl (xp.map bv) _ (hxr.out _ hw.drew) Tryd.underlying39 rfl (by rw [xpv32.out]; kernel_rfl)) (by simp only [List.set_cons_succ, List.set_cons_zero]; rfl) ?_
                refine relMove Ext.refl rfl rfl rfl rfl _ (.inl rfl) (by conv => lhs; whnf) (by simp only [List.set_cons_succ, List.set_cons_zero]; rfl) ?_
                refine relMove Ext.refl rfl rfl rfl rfl _ (.inl rfl) (by conv => lhs; whnf) (by simp only [List.set_cons_succ, List.set_cons_zero]; rfl) ?_
                refine relPure Ext.refl rfl rfl rfl rfl (c := .pointer (some ⟨b2, o2 + j * 32, none⟩)) (fun w _ => by have := m2; have := m3; go_simp; first | done | rfl) (by simp only [List.set_cons_succ, List.set_cons_zero]; rfl) ?_
                refine relPure Ext.refl rfl rfl rfl rfl (c := .agg (hcs sp)) (fun w hw => exec_load_mid _ _ rfl b2 (o2 + j * 32) rfl (sp.map bv) _ (hsr.out _ hw.drew) Tryd.underlying39 rfl (by rw [spv32.out]; kernel_rfl)) (by simp only [List.set_cons_succ, List.set_cons_zero]; rfl) ?_
                refine relBin Ext.refl rfl rfl rfl rfl _ _ _ _ _ rfl (by conv => lhs; whnf) (by conv => lhs; whnf) (c := .bool false) (fun w => heq.out _ _ w) (by simp only [List.set_cons_succ, List.set_cons_zero]; rfl) ?_
                refine relEnd fun w6 hw6 => fill_end ?_
                have bq6 := bq.trans (hw6.drew.mono bq.size)
                go_wp2
                go_roundw
                case rel =>
                  refine ⟨j + 1, by omega, by go_num, Lib.hid ?_, bq6⟩
                  intro s' hs'
                  rcases mem_take_succ hs.out hs' with h | rfl
                  · exact hin.out s' h
                  · exact fun e => by have := hq.out; rw [e] at this; simp at this
                case measure => simp [intOf]; omega
              · obtain rfl : b = true := by
                  rw [← hb.out, txT, Bool.or_eq_true]
                  refine .inr (insT_yes (i := x.1) (x := sp) (List.mem_map.2 ⟨x, List.mem_of_getElem? hx.out, rfl⟩) (List.mem_of_getElem? hs.out) ?_)
                  rw [← hxp.out]
                  exact eq_of_beq hq.out
                refine wp_region_rel [] Ext (by kernel_rfl) (by kernel_rfl) (by kernel_rfl) Ext.refl Ext.trans (by intro p hp; cases hp) ?_
                refine relPure Ext.refl rfl rfl rfl rfl (fun w _ => by go_simp; first | done | rfl) (by simp only [List.set_cons_succ, List.set_cons_zero]; rfl) ?_
                refine relPure Ext.refl rfl rfl rfl rfl (c := .slice (some ⟨b1, o1, none⟩) n1 c1) (fun w hw => by have := (aq.below hw.drew).cell 1 _ rfl; go_simp; first | done | rfl) (by simp only [List.set_cons_succ, List.set_cons_zero]; rfl) ?_
                refine relMove Ext.refl rfl rfl rfl rfl _ (.inl rfl) (by conv => lhs; whnf) (by simp only [List.set_cons_succ, List.set_cons_zero]; rfl) ?_
                refine relPure Ext.refl rfl rfl rfl rfl (c := .pointer (some ⟨b1, o1 + k * 35, none⟩)) (fun w _ => by have := m0; have := m1; go_simp; first | done | rfl) (by simp only [List.set_cons_succ, List.set_cons_zero]; rfl) ?_
                refine relPure Ext.refl rfl rfl rfl rfl (c := .pointer (some ⟨b1, o1 + k * 35, none⟩)) (fun w _ => by go_simp; first | done | rfl) (by simp only [List.set_cons_succ, List.set_cons_zero]; rfl) ?_
                refine relPure Ext.refl rfl rfl rfl rfl (c := .agg (hcs xp)) (fun w hw => exec_load_mid _ _ rfl b1 (o1 + k * 35) rfl (xp.map bv) _ (hxr.out _ hw.drew) Tryd.underlying39 rfl (by rw [xpv32.out]; kernel_rfl)) (by simp only [List.set_cons_succ, List.set_cons_zero]; rfl) ?_
                refine relMove Ext.refl rfl rfl rfl rfl _ (.inl rfl) (by conv => lhs; whnf) (by simp only [List.set_cons_succ, List.set_cons_zero]; rfl) ?_
                refine relMove Ext.refl rfl rfl rfl rfl _ (.inl rfl) (by conv => lhs; whnf) (by simp only [List.set_cons_succ, List.set_cons_zero]; rfl) ?_
                refine relPure Ext.refl rfl rfl rfl rfl (c := .pointer (some ⟨b2, o2 + j * 32, none⟩)) (fun w _ => by have := m2; have := m3; go_simp; first | done | rfl) (by simp only [List.set_cons_succ, List.set_cons_zero]; rfl) ?_
                refine relPure Ext.refl rfl rfl rfl rfl (c := .agg (hcs sp)) (fun w hw => exec_load_mid _ _ rfl b2 (o2 + j * 32) rfl (sp.map bv) _ (hsr.out _ hw.drew) Tryd.underlying39 rfl (by rw [spv32.out]; kernel_rfl)) (by simp only [List.set_cons_succ, List.set_cons_zero]; rfl) ?_
                refine relBin Ext.refl rfl rfl rfl rfl _ _ _ _ _ rfl (by conv => lhs; whnf) (by conv => lhs; whnf) (c := .bool true) (fun w => heq.out _ _ w) (by simp only [List.set_cons_succ, List.set_cons_zero]; rfl) ?_
                refine relEnd fun w6 hw6 => fill_end ?_
                have bq6 := bw0.trans (hw6.drew.mono bw0.size)
                go_wp2
                go_ret
                exact ⟨rfl, bq6⟩
            · obtain rfl : nh = j := by omega
              have t5 : decide ((nh : Int) < (nh : Int)) = false := by simp
              go_wp2
              refine ⟨⟨k + 1, by omega, by go_num, Lib.hid ?_, bq⟩, ?_⟩
              · intro e he s hs
                rcases mem_take_succ hx.out he with h | rfl
                · exact hall.out e h s hs
                · rw [← hxp.out]
                  exact hin.out s (by rw [List.take_of_length_le (by rw [hnh.out]; omega)]; exact hs)
              · simp [intOf]; omega
        · obtain rfl : n1 = k := by omega
          have t4 : decide ((n1 : Int) < (n1 : Int)) = false := by simp
          obtain rfl : b = false := by
            rw [← hb.out, txT, txOf, hno.out, Bool.false_or]
            refine insT_no fun o ho s hs => ?_
            obtain ⟨e, he, rfl⟩ := List.mem_map.1 ho
            exact hall.out e (by rw [List.take_of_length_le (by rw [hn1.out]; omega)]; exact he) s hs
          go_wp2
          go_ret
          exact ⟨rfl, bw0⟩
end Go.Proofs.YtopgljkfoogihaaDoor
