/- The law ProofClimbs: the walk. -/
import Derived.Test.YtdkknincamkhpaaDoorQ1
import Derived.Test.YtdkknincamkhpaaDoorClc
namespace Go.Proofs.YtdkknincamkhpaaDoor
open Go.RowKit
attribute [local go_sem high] slB_lh slB_l slB_h
/-- a path that was told -/
def PSw (P : List (List UInt8)) : VP := fun v w => ∃ A c, v = .slice A P.length c ∧ Rd w A (hcl P)
def PTw (P : List (List UInt8)) : VP := fun v w => ∃ A c, v = .tuple #[.slice A P.length c, .bool true] ∧ Rd w A (hcl P)
theorem PSw.mono {P : List (List UInt8)} {v : Value} {w w' : World} (h : Ext w w') : PSw P v w → PSw P v w' := by
  rintro ⟨A, c, rfl, h1⟩
  exact ⟨A, c, rfl, h1.below h⟩
theorem PTw.mono {P : List (List UInt8)} {v : Value} {w w' : World} (h : Ext w w') : PTw P v w → PTw P v w' := by
  rintro ⟨A, c, rfl, h1⟩
  exact ⟨A, c, rfl, h1.below h⟩
/-- of each match what is told -/
theorem qFnd_mem {tot : Nat} {hs : List (List UInt8)} {fl : List UInt8} {q : Nat} {z : List UInt8} (h : (q, z) ∈ extL (pExt tot hs fl)) : qFnd tot hs fl (q : Int) = some (extX (pExt tot hs fl), z) := by
  unfold qFnd
  cases hx : pExt tot hs fl with
  | none => rw [hx] at h; cases h
  | some r =>
    rw [hx] at h
    rw [Option.bind_some, qFind_of_mem _ _ _ (pExt_rise hx) h]
    rfl
set_option maxRecDepth 100000 in
set_option maxHeartbeats 8000000 in
theorem pclm_0 (tot : Nat) (Ah Af : Option Addr) (nh ch nf cf : Nat) (pos : Int) (h : false = decide (nh ≤ 60 ∧ nf ≤ 60)) (w : World) (hT : Tabs w) : Calls Tryd.prog 6 #[.agg (trc tot Ah nh ch Af nf cf).toArray, .int .i64 pos] w fun e w' => e = .returned (.bool true) ∧ Below w.heap.size w w' := by
  obtain ⟨X, hX⟩ : ∃ X, X = w.heap.size := ⟨_, rfl⟩
  obtain ⟨W, hW⟩ : ∃ W, W = w.alloc (.cells (trc tot Ah nh ch Af nf cf).toArray 26) := ⟨_, rfl⟩
  have bW : Below w.heap.size w W := by rw [hW]; exact (Below.refl _ _).alloc (Nat.le_refl _) _
  have aX : Av W X 26 (trc tot Ah nh ch Af nf cf) := by rw [hW, hX]; exact Av.new _ _ _
  have HA := Lib.hid (awake12 W (hT.below bW))
  replace hX := Lib.hid hX
  replace hW := Lib.hid hW
  have HW := fun w' => PFew false tot Ah nh ch Af nf cf h w'
  replace HW := Lib.hid HW
  clear h
  go_enter Tryd.func6, Tryd.ntmps6
  go_upto_region 1 with fail
  rw [← hX.out]
  rw [show w.alloc (.cells (trc tot Ah nh ch Af nf cf).toArray 26) = W from hW.out.symm]
  go_upto_region 2 with (go_at_call 9; refine (HA.out).mono ?_; rintro e w1 ⟨rfl, b1⟩)
  have aX1 := aX.below b1
  have bw1 := bW.trans (b1.mono bW.size)
  clear HA aX b1
  go_wp2_with (first
    | ((with_reducible refine wpList_loadF 26 aX1 ?_ _ 3 (rfl) Tryd.underlying26 ?_ ?_ ?_); rfl; rfl; kernel_rfl)
    | (go_at_call 10; refine (HW.out w1).mono ?_; rintro e w2 ⟨rfl, b2⟩))
  go_ret
  exact ⟨rfl, bw1.trans (b2.mono bw1.size)⟩
set_option maxRecDepth 100000 in
set_option maxHeartbeats 16000000 in
theorem pclm_1 (tot : Nat) (hs : List (List UInt8)) (fl : List UInt8) (Ah Af : Option Addr) (nh ch nf cf : Nat) (htot : tot < 4294967296) (hnh : hs.length = nh) (h32 : All32 hs) (hnf : fl.length = nf) (pos : Int) (w : World) (hrh : Rd w Ah (hcl hs)) (hrf : Rd w Af (fl.map bv)) (hT : Tabs w) (h60 : nh ≤ 60) (f60 : nf ≤ 60) : Calls Tryd.prog 6 #[.agg (trc tot Ah nh ch Af nf cf).toArray, .int .i64 pos] w fun e w' => e = .returned (.bool true) ∧ Below w.heap.size w w' := by
  obtain ⟨X, hX⟩ : ∃ X, X = w.heap.size := ⟨_, rfl⟩
  obtain ⟨W, hW⟩ : ∃ W, W = w.alloc (.cells (trc tot Ah nh ch Af nf cf).toArray 26) := ⟨_, rfl⟩
  have bW : Below w.heap.size w W := by rw [hW]; exact (Below.refl _ _).alloc (Nat.le_refl _) _
  have aX : Av W X 26 (trc tot Ah nh ch Af nf cf) := by rw [hW, hX]; exact Av.new _ _ _
  have HA := Lib.hid (awake12 W (hT.below bW))
  replace hX := Lib.hid hX
  replace hW := Lib.hid hW
  have HW := fun w' => PFew true tot Ah nh ch Af nf cf (by simp; omega) w'
  have HE := fun w' r r2 t => PExtH fl hs h32 tot Ah nh ch Af nf cf hnh hnf htot (by omega) (by omega) w' r r2 t
  have HQ2 := fun w' r r2 t => PPathB fl hs h32 tot Ah nh ch Af nf cf hnh hnf htot (by omega) (by omega) pos w' r r2 t
  have HQ1 := fun q w' r r2 t => PPath fl hs h32 tot Ah nh ch Af nf cf hnh hnf htot (by omega) (by omega) q w' r r2 t
  have HK1 := fun root y r32 y32 q w' r r2 t => PCheck fl hs h32 tot Ah nh ch Af nf cf hnh hnf htot (by omega) (by omega) root y r32 y32 q w' r r2 t
  have HP := fun w' => PTree tot Ah nh ch Af nf cf w'
  obtain ⟨l1, l2, l3, l4⟩ := extL_facts (tot := tot) (fl := fl) h32
  have MEM := fun q z (h : (q, z) ∈ extL (pExt tot hs fl)) => qFnd_mem h
  obtain ⟨n, hn⟩ : ∃ n, n = (extL (pExt tot hs fl)).length := ⟨_, rfl⟩
  have q2 := (qCheck_ext (tot := tot) (fl := fl) h32 [] pos [] n hn.symm).2
  have hnb : n ≤ 60 := by omega
  rw [← hn] at HE
  have hE2 : extE (pExt tot hs fl) = 0 ∨ (extE (pExt tot hs fl) = 13 ∧ n = 0) := by
    rw [hn]
    cases pExt tot hs fl
    · exact .inr ⟨rfl, rfl⟩
    · exact .inl rfl
  obtain ⟨gx, hgx⟩ : ∃ gx, gx = extX (pExt tot hs fl) := ⟨_, rfl⟩
  obtain ⟨L, hL⟩ : ∃ L, L = extL (pExt tot hs fl) := ⟨_, rfl⟩
  obtain ⟨E, hE⟩ : ∃ E, E = extE (pExt tot hs fl) := ⟨_, rfl⟩
  obtain ⟨O, hO⟩ : ∃ O, O = (qFnd tot hs fl pos).isSome := ⟨_, rfl⟩
  rw [← hgx] at HE l3 MEM
  rw [← hL] at HE q2 l2 hn MEM
  rw [← hE] at HE hE2
  rw [← hO] at HQ2 q2
  have gxv32 : (gx.map bv).length = 32 := by rw [List.length_map, l3]
  have gone : (gx.map bv).all (·.oneCell') = true := List.all_eq_true.2 (bv_one gx)
  have NG := fun p q w => neqHw gx gx l3 l3 p q w
  rw [show (!(gx == gx)) = false by simp] at NG
  clear l1 l4
  replace q2 := Lib.hid q2
  replace l2 := Lib.hid l2
  replace l3 := Lib.hid l3
  replace hn := Lib.hid hn
  replace hgx := Lib.hid hgx
  replace hL := Lib.hid hL
  replace hE := Lib.hid hE
  replace hO := Lib.hid hO
  replace hE2 := Lib.hid hE2
  replace HW := Lib.hid HW
  replace HE := Lib.hid HE
  replace HQ2 := Lib.hid HQ2
  replace HQ1 := Lib.hid HQ1
  replace HK1 := Lib.hid HK1
  replace MEM := Lib.hid MEM
  replace HP := Lib.hid HP
  replace NG := Lib.hid NG
  replace gxv32 := Lib.hid gxv32
  replace gone := Lib.hid gone
  replace hnh := Lib.hid hnh
  replace hnf := Lib.hid hnf
  go_enter Tryd.func6, Tryd.ntmps6
  go_upto_region 1 with fail
  rw [← hX.out]
  rw [show w.alloc (.cells (trc tot Ah nh ch Af nf cf).toArray 26) = W from hW.out.symm]
  go_upto_region 2 with (go_at_call 9; refine (HA.out).mono ?_; rintro e w1 ⟨rfl, b1⟩)
  have aX1 := aX.below b1
  have bw1 := bW.trans (b1.mono bW.size)
  clear HA aX b1
  go_upto_region 4 with (first
    | ((with_reducible refine wpList_loadF 26 aX1 ?_ _ 3 (rfl) Tryd.underlying26 ?_ ?_ ?_); rfl; rfl; kernel_rfl)
    | (go_at_call 10; refine (HW.out w1).mono ?_; rintro e w2 ⟨rfl, b2⟩))
  have bw2 := bw1.trans (b2.mono bw1.size)
  have aX2 := aX1.below b2
  clear aX1 b2 bw1 HW
  go_upto_region 6 with (first
    | ((with_reducible refine wpList_loadF 26 aX2 ?_ _ 3 (rfl) Tryd.underlying26 ?_ ?_ ?_); rfl; rfl; kernel_rfl)
    | (go_at_call 12; refine (HP.out w2).mono ?_; rintro e w3 ⟨rfl, b3⟩; have bw3 := bw2.trans (b3.mono bw2.size))
    | (go_at_call 22; refine (HE.out w3 (hrh.below bw3) (hrf.below bw3) (hT.below bw3)).mono ?_; rintro e w4 ⟨b4, A, c, rfl, hlc, rl4⟩)
    | ((with_reducible refine wpList_storeF 28 ((Below.refl w4.heap.size w4).alloc (Nat.le_refl _) _) (heap_alloc_new _ _) (Nat.le_refl _) (gx.map bv) ?_ ?_ 32 gxv32.out ?_ ?_ ?_ ?_); rfl; rfl; kernel_rfl; rfl; exact gone.out; intro w5 aG b5 k5 z5; clear k5; replace z5 := Lib.hid z5))
  obtain ⟨G, hG⟩ : ∃ G, G = w4.heap.size := ⟨_, rfl⟩
  rw [← hG] at aG ⊢
  replace hG := Lib.hid hG
  have b25 := b3.trans ((b4.trans (b5.mono b4.size)).mono b3.size)
  have bw50 := bw2.trans (b25.mono bw2.size)
  have aX50 := aX2.below b25
  have rl5 := rl4.below b5
  clear aX2 b3 b4 b5 b25 bw2 bw3 rl4 HE
  go_wp2
  go_loopw [9, 10, 11, 12] (fun f i _ _ wr => ∃ (j : Nat) (F : Bool), j ≤ n ∧ f = .bool F ∧ i = .int .i64 (j : Int) ∧ Hid (F = qT L pos j) ∧ Below w5.heap.size w5 wr) (fun _ i _ _ _ => n - (intOf i).toNat)
  case atStart => exact ⟨0, false, Nat.zero_le _, rfl, rfl, Lib.hid rfl, Below.refl _ _⟩
  case round =>
    obtain ⟨j, F, hj, rfl, rfl, hF, bw⟩ := hrel
    by_cases hlt : j < n
    · have u1 : decide ((j : Int) < (n : Int)) = true := by simp; omega
      have n0 : 0 ≤ (j : Int) := by omega
      have n1 : (j : Int) < (n : Int) := by omega
      obtain ⟨p, hp⟩ : ∃ p, L[j]? = some p := ⟨_, List.getElem?_eq_getElem (by rw [← hn.out]; exact hlt)⟩
      obtain ⟨bX, oX, rfl⟩ := rl5.someA (mlc_ne0 (by rw [← hn.out]; omega))
      have z32 := l2.out p (List.mem_of_getElem? hp)
      have C1 : ∀ w', Below w5.heap.size w5 w' → w'.cell? ⟨bX, oX + j * 33, none⟩ = some (.int .i64 (p.1 : Int)) := fun w' h => ((rl5.below h).match_atq l2.out j p hp).1
      have C2 : ∀ w', Below w5.heap.size w5 w' → w'.rangeAt bX (oX + j * 33 + 1) (p.2.map bv) := fun w' h => ((rl5.below h).match_atq l2.out j p hp).2
      have hF1 := qT_succ L pos j p hp
      rw [← hF.out] at hF1
      have hq := MEM.out p.1 p.2 (List.mem_of_getElem? hp)
      obtain ⟨q, z⟩ := p
      dsimp only at z32 C1 C2 hF1 hq
      obtain ⟨pl, pc, _, ptot, pq⟩ := qPath_climbs hq
      have p32 := qPath_32 tot hs fl (q : Int) h32
      have HQ := fun w' r r2 t => HQ1.out (q : Int) w' r r2 t
      unfold PathPost at HQ
      rw [hq] at HQ
      simp only [Option.map_some] at HQ
      have HK := fun w' r r2 t => HK1.out gx z l3.out z32 (q : Int) w' r r2 t
      have hkt : qCheck tot hs fl gx (q : Int) z = true := by
        unfold qCheck
        rw [hq]
        simp
      rw [hkt] at HK
      obtain ⟨P, hP⟩ : ∃ P, P = qPath tot hs fl (q : Int) := ⟨_, rfl⟩
      rw [← hP] at pl pc p32 HQ
      have qn : (q : Int).toNat = q := by omega
      rw [qn] at pc
      obtain ⟨m, hm⟩ : ∃ m, m = P.length := ⟨_, rfl⟩
      have hm12 : m ≤ 12 := by rw [hm, pl]; exact (pHt_spec tot ptot).1
      have HH := fun w => PHt tot ptot w
      rw [← pl, ← hm] at HH
      have HC := fun A c w' r t => Climb z z32 P p32 (q : Int) q (by omega) (by omega) A m c hm.symm (by omega) w' r t
      rw [pc] at HC
      have zv32 : (z.map bv).length = 32 := by rw [List.length_map, z32]
      have wt : IntKind.i64.wrap (tot : Int) = (tot : Int) := by rw [IntKind.wrap_i64]; omega
      obtain ⟨Bq, hB⟩ : ∃ Bq, Bq = ((q : Int) == pos) := ⟨_, rfl⟩
      rw [← hB] at hF1
      have aXr := aX50.below bw
      have bwr := bw50.trans (bw.mono bw50.size)
      clear hF hp z32 hq hkt pl pc qn
      have hF := Lib.hid hF1
      clear hF1
      replace hB := Lib.hid hB
      replace zv32 := Lib.hid zv32
      replace C1 := Lib.hid C1
      replace C2 := Lib.hid C2
      replace HQ := Lib.hid HQ
      replace HK := Lib.hid HK
      replace HH := Lib.hid HH
      replace HC := Lib.hid HC
      replace hP := Lib.hid hP
      replace hm := Lib.hid hm
      replace wt := Lib.hid wt
      go_upto_region 9 with fail
      refine wp_region_rel [(7, PTw P), (8, PTw P), (9, PSw P), (11, PSw P)] Ext (by kernel_rfl) (by kernel_rfl) (by kernel_rfl) Ext.refl Ext.trans (by
        intro p hp v w w' hR
        simp only [List.mem_cons, List.not_mem_nil, or_false] at hp
        rcases hp with rfl | rfl | rfl | rfl
        · exact PTw.mono hR
        · exact PTw.mono hR
        · exact PSw.mono hR
        · exact PSw.mono hR) ?_
      refine relPure Ext.refl rfl rfl rfl rfl (c := .agg ((trc tot Ah nh ch Af nf cf)).toArray) (fun w hw => exec_loadAv (aXr.below hw.drew) _ _ rfl rfl _ 3 rfl Tryd.underlying26 rfl (by kernel_rfl)) (by simp only [List.set_cons_succ, List.set_cons_zero]; rfl) ?_
      refine relCall1 rfl rfl rfl rfl (c := .agg (trc tot Ah nh ch Af nf cf).toArray) 12 #[.agg (trc tot Ah nh ch Af nf cf).toArray] (fun w => by go_simp) (fun w hw => (HP.out w).mono ?_) (by simp only [List.set_cons_succ, List.set_cons_zero]; rfl) ?_
      · rintro e w' ⟨rfl, b⟩
        exact ⟨rfl, b⟩
      refine relMove Ext.refl rfl rfl rfl rfl _ (.inl rfl) (by conv => lhs; whnf) (by simp only [List.set_cons_succ, List.set_cons_zero]; rfl) ?_
      refine relMove Ext.refl rfl rfl rfl rfl _ (.inl rfl) (by conv => lhs; whnf) (by simp only [List.set_cons_succ, List.set_cons_zero]; rfl) ?_
      refine relPure Ext.refl rfl rfl rfl rfl (c := .pointer (some ⟨bX, oX + j * 33, none⟩)) (fun w _ => by go_simp; first | done | rfl) (by simp only [List.set_cons_succ, List.set_cons_zero]; rfl) ?_
      refine relPure Ext.refl rfl rfl rfl rfl (c := .pointer (some ⟨bX, oX + j * 33, none⟩)) (fun w _ => by go_simp; first | done | rfl) (by simp only [List.set_cons_succ, List.set_cons_zero]; rfl) ?_
      refine relPure Ext.refl rfl rfl rfl rfl (c := .int .i64 (q : Int)) (fun w hw => by have := C1.out _ (bw.trans (hw.drew.mono bw.size)); go_simp; first | done | rfl) (by simp only [List.set_cons_succ, List.set_cons_zero]; rfl) ?_
      refine relCall _ rfl rfl rfl 11 #[.agg (trc tot Ah nh ch Af nf cf).toArray, .int .i64 (q : Int)] (fun w => by go_simp) (fun w hw => (HQ.out w (hrh.below (bwr.trans (hw.drew.mono bwr.size))) (hrf.below (bwr.trans (hw.drew.mono bwr.size))) (hT.below (bwr.trans (hw.drew.mono bwr.size)))).mono ?_) ?_
      · rintro e w' ⟨hb, A, c, rfl, _, _, hrd⟩
        exact ⟨_, rfl, hb, A, c, rfl, hrd⟩
      refine relWord _ rfl (fun w hw => fill_take rfl rfl fun u hu => fill_none rfl (relOp_yes rfl ?_)) ?_
      · go_simp
        exact ⟨Ext.refl _, hu⟩
      refine relWord _ rfl (fun w hw => fill_skip rfl (fill_take rfl rfl fun u hu => fill_none rfl (relOp_yes rfl ?_))) ?_
      · obtain ⟨A, c, rfl, h⟩ := hu
        go_simp
        exact ⟨Ext.refl _, A, c, rfl, h⟩
      refine relOn rfl rfl (c := .bool true) (fun w hw => fill_skip rfl (fill_take rfl rfl fun u hu => fill_none rfl (relOp_yes rfl ?_))) (by simp only [List.set_cons_succ, List.set_cons_zero]; rfl) ?_
      · obtain ⟨A, c, rfl, h⟩ := hu
        go_simp
        exact ⟨Ext.refl _, rfl⟩
      refine relWord _ rfl (fun w hw => fill_skip rfl (fill_skip rfl (fill_take rfl rfl fun u hu => fill_none rfl (relOp_yes rfl ?_)))) ?_
      · go_simp
        exact ⟨Ext.refl _, hu⟩
      refine relMove Ext.refl rfl rfl rfl rfl _ (.inr rfl) (by conv => lhs; whnf) (by simp only [List.set_cons_succ, List.set_cons_zero]; rfl) ?_
      refine relEnd fun w6 hw6 => fill_take rfl rfl fun v1 h1 => fill_take rfl rfl fun v2 h2 => fill_take rfl rfl fun v3 h3 => fill_take rfl rfl fun v4 h4 => fill_end ?_
      obtain ⟨_, _, rfl, -⟩ := h1
      obtain ⟨_, _, rfl, -⟩ := h2
      obtain ⟨_, _, rfl, -⟩ := h3
      obtain ⟨A5, c5, rfl, rd5⟩ := h4
      simp only [List.set_cons_succ, List.set_cons_zero]
      rw [← hm.out]
      have bw5 := bw.trans (hw6.drew.mono bw.size)
      have bwr5 := bw50.trans (bw5.mono bw50.size)
      have aX5 := aX50.below bw5
      have aG5 := aG.below bw5
      have cr := C1.out w6 bw5
      clear bwr aXr HQ hw6
      cases F <;> cases Bq
      · have e1 : ((q : Int) == pos) = false := hB.out.symm
        go_upto_region 11 with fail
        clear cr
        refine wp_region_rel [] Ext (by kernel_rfl) (by kernel_rfl) (by kernel_rfl) Ext.refl Ext.trans (by intro p hp; cases hp) ?_
        refine relMove Ext.refl rfl rfl rfl rfl _ (.inl rfl) (by conv => lhs; whnf) (by simp only [List.set_cons_succ, List.set_cons_zero]; rfl) ?_
        refine relPure Ext.refl rfl rfl rfl rfl (c := .bool false) (fun w _ => by go_simp; first | done | rfl) (by simp only [List.set_cons_succ, List.set_cons_zero]; rfl) ?_
        refine relMove Ext.refl rfl rfl rfl rfl _ (.inl rfl) (by conv => lhs; whnf) (by simp only [List.set_cons_succ, List.set_cons_zero]; rfl) ?_
        refine relMove Ext.refl rfl rfl rfl rfl _ (.inl rfl) (by conv => lhs; whnf) (by simp only [List.set_cons_succ, List.set_cons_zero]; rfl) ?_
        refine relPure Ext.refl rfl rfl rfl rfl (c := .int .i64 (m : Int)) (fun w _ => by go_simp; first | done | rfl) (by simp only [List.set_cons_succ, List.set_cons_zero]; rfl) ?_
        refine relPure Ext.refl rfl rfl rfl rfl (fun w _ => by go_simp; first | done | rfl) (by simp only [List.set_cons_succ, List.set_cons_zero]; rfl) ?_
        refine relPure Ext.refl rfl rfl rfl rfl (c := .int .u32 (tot : Int)) (fun w hw => by have := (aX5.below hw.drew).cell 0 _ rfl; go_simp; first | done | rfl) (by simp only [List.set_cons_succ, List.set_cons_zero]; rfl) ?_
        refine relPure Ext.refl rfl rfl rfl rfl (c := .int .i64 (tot : Int)) (fun w _ => by have := wt.out; go_simp; first | done | rfl) (by simp only [List.set_cons_succ, List.set_cons_zero]; rfl) ?_
        refine relCall1 rfl rfl rfl rfl (c := .int .i64 (m : Int)) 24 #[.int .i64 (tot : Int)] (fun w => by go_simp) (fun w hw => (HH.out w).mono ?_) (by simp only [List.set_cons_succ, List.set_cons_zero]; rfl) ?_
        · rintro e w' ⟨rfl, rfl⟩
          exact ⟨rfl, Ext.refl _⟩
        refine relPure Ext.refl rfl rfl rfl rfl (c := .bool false) (fun w _ => by go_simp; first | done | rfl) (by simp only [List.set_cons_succ, List.set_cons_zero]; rfl) ?_
        refine relPick Ext.refl rfl rfl rfl rfl _ _ _ rfl rfl (by conv => lhs; whnf) (by simp only [List.set_cons_succ, List.set_cons_zero]; rfl) ?_
        refine relMove Ext.refl rfl rfl rfl rfl _ (.inl rfl) (by conv => lhs; whnf) (by simp only [List.set_cons_succ, List.set_cons_zero]; rfl) ?_
        refine relMove Ext.refl rfl rfl rfl rfl _ (.inl rfl) (by conv => lhs; whnf) (by simp only [List.set_cons_succ, List.set_cons_zero]; rfl) ?_
        refine relMove Ext.refl rfl rfl rfl rfl _ (.inl rfl) (by conv => lhs; whnf) (by simp only [List.set_cons_succ, List.set_cons_zero]; rfl) ?_
        refine relPure Ext.refl rfl rfl rfl rfl (c := .pointer (some ⟨bX, oX + j * 33, none⟩)) (fun w _ => by go_simp; first | done | rfl) (by simp only [List.set_cons_succ, List.set_cons_zero]; rfl) ?_
        refine relPure Ext.refl rfl rfl rfl rfl (c := .pointer (some ⟨bX, oX + j * 33 + 1, none⟩)) (fun w _ => by go_simp; first | done | rfl) (by simp only [List.set_cons_succ, List.set_cons_zero]; rfl) ?_
        refine relPure Ext.refl rfl rfl rfl rfl (c := .agg (hcs z)) (fun w hw => exec_load_mid _ _ rfl bX (oX + j * 33 + 1) rfl (z.map bv) _ (C2.out _ (bw5.trans (hw.drew.mono bw5.size))) Tryd.underlying28 rfl (by rw [zv32.out]; kernel_rfl)) (by simp only [List.set_cons_succ, List.set_cons_zero]; rfl) ?_
        refine relMove Ext.refl rfl rfl rfl rfl _ (.inl rfl) (by conv => lhs; whnf) (by simp only [List.set_cons_succ, List.set_cons_zero]; rfl) ?_
        refine relMove Ext.refl rfl rfl rfl rfl _ (.inl rfl) (by conv => lhs; whnf) (by simp only [List.set_cons_succ, List.set_cons_zero]; rfl) ?_
        refine relMove Ext.refl rfl rfl rfl rfl _ (.inl rfl) (by conv => lhs; whnf) (by simp only [List.set_cons_succ, List.set_cons_zero]; rfl) ?_
        refine relPure Ext.refl rfl rfl rfl rfl (c := .pointer (some ⟨bX, oX + j * 33, none⟩)) (fun w _ => by go_simp; first | done | rfl) (by simp only [List.set_cons_succ, List.set_cons_zero]; rfl) ?_
        refine relPure Ext.refl rfl rfl rfl rfl (c := .pointer (some ⟨bX, oX + j * 33, none⟩)) (fun w _ => by go_simp; first | done | rfl) (by simp only [List.set_cons_succ, List.set_cons_zero]; rfl) ?_
        refine relPure Ext.refl rfl rfl rfl rfl (c := .int .i64 (q : Int)) (fun w hw => by have := C1.out _ (bw5.trans (hw.drew.mono bw5.size)); go_simp; first | done | rfl) (by simp only [List.set_cons_succ, List.set_cons_zero]; rfl) ?_
        refine relCall1 rfl rfl rfl rfl (c := .agg (hcs gx)) 25 #[.agg (hcs z), .slice A5 m c5, .int .i64 (q : Int)] (fun w => by go_simp) (fun w hw => (HC.out A5 c5 w (rd5.below hw.drew) (hT.below (bwr5.trans (hw.drew.mono bwr5.size)))).mono ?_) (by simp only [List.set_cons_succ, List.set_cons_zero]; rfl) ?_
        · rintro e w' ⟨rfl, b⟩
          exact ⟨rfl, b⟩
        refine relPure Ext.refl rfl rfl rfl rfl (c := .agg (hcs gx)) (fun w hw => exec_loadAv (aG5.below hw.drew) _ _ rfl rfl _ 32 gxv32.out Tryd.underlying28 rfl (by kernel_rfl)) (by simp only [List.set_cons_succ, List.set_cons_zero]; rfl) ?_
        refine relBin Ext.refl rfl rfl rfl rfl _ _ _ _ _ rfl (by conv => lhs; whnf) (by conv => lhs; whnf) (c := .bool false) (fun w => NG.out _ _ w) (by simp only [List.set_cons_succ, List.set_cons_zero]; rfl) ?_
        refine relPick Ext.refl rfl rfl rfl rfl _ _ _ rfl rfl (by conv => lhs; whnf) (by simp only [List.set_cons_succ, List.set_cons_zero]; rfl) ?_
        refine relMove Ext.refl rfl rfl rfl rfl _ (.inl rfl) (by conv => lhs; whnf) (by simp only [List.set_cons_succ, List.set_cons_zero]; rfl) ?_
        refine relPure Ext.refl rfl rfl rfl rfl (c := .agg ((trc tot Ah nh ch Af nf cf)).toArray) (fun w hw => exec_loadAv (aX5.below hw.drew) _ _ rfl rfl _ 3 rfl Tryd.underlying26 rfl (by kernel_rfl)) (by simp only [List.set_cons_succ, List.set_cons_zero]; rfl) ?_
        refine relCall1 rfl rfl rfl rfl (c := .agg (trc tot Ah nh ch Af nf cf).toArray) 12 #[.agg (trc tot Ah nh ch Af nf cf).toArray] (fun w => by go_simp) (fun w hw => (HP.out w).mono ?_) (by simp only [List.set_cons_succ, List.set_cons_zero]; rfl) ?_
        · rintro e w' ⟨rfl, b⟩
          exact ⟨rfl, b⟩
        refine relPure Ext.refl rfl rfl rfl rfl (c := .agg (hcs gx)) (fun w hw => exec_loadAv (aG5.below hw.drew) _ _ rfl rfl _ 32 gxv32.out Tryd.underlying28 rfl (by kernel_rfl)) (by simp only [List.set_cons_succ, List.set_cons_zero]; rfl) ?_
        refine relMove Ext.refl rfl rfl rfl rfl _ (.inl rfl) (by conv => lhs; whnf) (by simp only [List.set_cons_succ, List.set_cons_zero]; rfl) ?_
        refine relMove Ext.refl rfl rfl rfl rfl _ (.inl rfl) (by conv => lhs; whnf) (by simp only [List.set_cons_succ, List.set_cons_zero]; rfl) ?_
        refine relPure Ext.refl rfl rfl rfl rfl (c := .pointer (some ⟨bX, oX + j * 33, none⟩)) (fun w _ => by go_simp; first | done | rfl) (by simp only [List.set_cons_succ, List.set_cons_zero]; rfl) ?_
        refine relPure Ext.refl rfl rfl rfl rfl (c := .pointer (some ⟨bX, oX + j * 33, none⟩)) (fun w _ => by go_simp; first | done | rfl) (by simp only [List.set_cons_succ, List.set_cons_zero]; rfl) ?_
        refine relPure Ext.refl rfl rfl rfl rfl (c := .int .i64 (q : Int)) (fun w hw => by have := C1.out _ (bw5.trans (hw.drew.mono bw5.size)); go_simp; first | done | rfl) (by simp only [List.set_cons_succ, List.set_cons_zero]; rfl) ?_
        refine relMove Ext.refl rfl rfl rfl rfl _ (.inl rfl) (by conv => lhs; whnf) (by simp only [List.set_cons_succ, List.set_cons_zero]; rfl) ?_
        refine relMove Ext.refl rfl rfl rfl rfl _ (.inl rfl) (by conv => lhs; whnf) (by simp only [List.set_cons_succ, List.set_cons_zero]; rfl) ?_
        refine relPure Ext.refl rfl rfl rfl rfl (c := .pointer (some ⟨bX, oX + j * 33, none⟩)) (fun w _ => by go_simp; first | done | rfl) (by simp only [List.set_cons_succ, List.set_cons_zero]; rfl) ?_
        refine relPure Ext.refl rfl rfl rfl rfl (c := .pointer (some ⟨bX, oX + j * 33 + 1, none⟩)) (fun w _ => by go_simp; first | done | rfl) (by simp only [List.set_cons_succ, List.set_cons_zero]; rfl) ?_
        refine relPure Ext.refl rfl rfl rfl rfl (c := .agg (hcs z)) (fun w hw => exec_load_mid _ _ rfl bX (oX + j * 33 + 1) rfl (z.map bv) _ (C2.out _ (bw5.trans (hw.drew.mono bw5.size))) Tryd.underlying28 rfl (by rw [zv32.out]; kernel_rfl)) (by simp only [List.set_cons_succ, List.set_cons_zero]; rfl) ?_
        refine relCall1 rfl rfl rfl rfl (c := .bool true) 17 #[.agg (trc tot Ah nh ch Af nf cf).toArray, .agg (hcs gx), .int .i64 (q : Int), .agg (hcs z)] (fun w => by go_simp) (fun w hw => (HK.out w (hrh.below (bwr5.trans (hw.drew.mono bwr5.size))) (hrf.below (bwr5.trans (hw.drew.mono bwr5.size))) (hT.below (bwr5.trans (hw.drew.mono bwr5.size)))).mono ?_) (by simp only [List.set_cons_succ, List.set_cons_zero]; rfl) ?_
        · rintro e w' ⟨rfl, b⟩
          exact ⟨rfl, b⟩
        refine relPure Ext.refl rfl rfl rfl rfl (c := .bool false) (fun w _ => by go_simp; first | done | rfl) (by simp only [List.set_cons_succ, List.set_cons_zero]; rfl) ?_
        refine relPick Ext.refl rfl rfl rfl rfl _ _ _ rfl rfl (by conv => lhs; whnf) (by simp only [List.set_cons_succ, List.set_cons_zero]; rfl) ?_
        refine relEnd fun w7 hw7 => fill_end ?_
        have bw7 := bw5.trans (hw7.drew.mono bw5.size)
        go_wp2
        refine ⟨⟨j + 1, false, by omega, rfl, by go_num, Lib.hid (by rw [hF.out]; rfl), bw7⟩, ?_⟩
        simp only [intOf]
        omega
      · have e1 : ((q : Int) == pos) = true := hB.out.symm
        go_upto_region 11 with fail
        clear cr
        refine wp_region_rel [] Ext (by kernel_rfl) (by kernel_rfl) (by kernel_rfl) Ext.refl Ext.trans (by intro p hp; cases hp) ?_
        refine relMove Ext.refl rfl rfl rfl rfl _ (.inl rfl) (by conv => lhs; whnf) (by simp only [List.set_cons_succ, List.set_cons_zero]; rfl) ?_
        refine relPure Ext.refl rfl rfl rfl rfl (c := .bool false) (fun w _ => by go_simp; first | done | rfl) (by simp only [List.set_cons_succ, List.set_cons_zero]; rfl) ?_
        refine relMove Ext.refl rfl rfl rfl rfl _ (.inl rfl) (by conv => lhs; whnf) (by simp only [List.set_cons_succ, List.set_cons_zero]; rfl) ?_
        refine relMove Ext.refl rfl rfl rfl rfl _ (.inl rfl) (by conv => lhs; whnf) (by simp only [List.set_cons_succ, List.set_cons_zero]; rfl) ?_
        refine relPure Ext.refl rfl rfl rfl rfl (c := .int .i64 (m : Int)) (fun w _ => by go_simp; first | done | rfl) (by simp only [List.set_cons_succ, List.set_cons_zero]; rfl) ?_
        refine relPure Ext.refl rfl rfl rfl rfl (fun w _ => by go_simp; first | done | rfl) (by simp only [List.set_cons_succ, List.set_cons_zero]; rfl) ?_
        refine relPure Ext.refl rfl rfl rfl rfl (c := .int .u32 (tot : Int)) (fun w hw => by have := (aX5.below hw.drew).cell 0 _ rfl; go_simp; first | done | rfl) (by simp only [List.set_cons_succ, List.set_cons_zero]; rfl) ?_
        refine relPure Ext.refl rfl rfl rfl rfl (c := .int .i64 (tot : Int)) (fun w _ => by have := wt.out; go_simp; first | done | rfl) (by simp only [List.set_cons_succ, List.set_cons_zero]; rfl) ?_
        refine relCall1 rfl rfl rfl rfl (c := .int .i64 (m : Int)) 24 #[.int .i64 (tot : Int)] (fun w => by go_simp) (fun w hw => (HH.out w).mono ?_) (by simp only [List.set_cons_succ, List.set_cons_zero]; rfl) ?_
        · rintro e w' ⟨rfl, rfl⟩
          exact ⟨rfl, Ext.refl _⟩
        refine relPure Ext.refl rfl rfl rfl rfl (c := .bool false) (fun w _ => by go_simp; first | done | rfl) (by simp only [List.set_cons_succ, List.set_cons_zero]; rfl) ?_
        refine relPick Ext.refl rfl rfl rfl rfl _ _ _ rfl rfl (by conv => lhs; whnf) (by simp only [List.set_cons_succ, List.set_cons_zero]; rfl) ?_
        refine relMove Ext.refl rfl rfl rfl rfl _ (.inl rfl) (by conv => lhs; whnf) (by simp only [List.set_cons_succ, List.set_cons_zero]; rfl) ?_
        refine relMove Ext.refl rfl rfl rfl rfl _ (.inl rfl) (by conv => lhs; whnf) (by simp only [List.set_cons_succ, List.set_cons_zero]; rfl) ?_
        refine relMove Ext.refl rfl rfl rfl rfl _ (.inl rfl) (by conv => lhs; whnf) (by simp only [List.set_cons_succ, List.set_cons_zero]; rfl) ?_
        refine relPure Ext.refl rfl rfl rfl rfl (c := .pointer (some ⟨bX, oX + j * 33, none⟩)) (fun w _ => by go_simp; first | done | rfl) (by simp only [List.set_cons_succ, List.set_cons_zero]; rfl) ?_
        refine relPure Ext.refl rfl rfl rfl rfl (c := .pointer (some ⟨bX, oX + j * 33 + 1, none⟩)) (fun w _ => by go_simp; first | done | rfl) (by simp only [List.set_cons_succ, List.set_cons_zero]; rfl) ?_
        refine relPure Ext.refl rfl rfl rfl rfl (c := .agg (hcs z)) (fun w hw => exec_load_mid _ _ rfl bX (oX + j * 33 + 1) rfl (z.map bv) _ (C2.out _ (bw5.trans (hw.drew.mono bw5.size))) Tryd.underlying28 rfl (by rw [zv32.out]; kernel_rfl)) (by simp only [List.set_cons_succ, List.set_cons_zero]; rfl) ?_
        refine relMove Ext.refl rfl rfl rfl rfl _ (.inl rfl) (by conv => lhs; whnf) (by simp only [List.set_cons_succ, List.set_cons_zero]; rfl) ?_
        refine relMove Ext.refl rfl rfl rfl rfl _ (.inl rfl) (by conv => lhs; whnf) (by simp only [List.set_cons_succ, List.set_cons_zero]; rfl) ?_
        refine relMove Ext.refl rfl rfl rfl rfl _ (.inl rfl) (by conv => lhs; whnf) (by simp only [List.set_cons_succ, List.set_cons_zero]; rfl) ?_
        refine relPure Ext.refl rfl rfl rfl rfl (c := .pointer (some ⟨bX, oX + j * 33, none⟩)) (fun w _ => by go_simp; first | done | rfl) (by simp only [List.set_cons_succ, List.set_cons_zero]; rfl) ?_
        refine relPure Ext.refl rfl rfl rfl rfl (c := .pointer (some ⟨bX, oX + j * 33, none⟩)) (fun w _ => by go_simp; first | done | rfl) (by simp only [List.set_cons_succ, List.set_cons_zero]; rfl) ?_
        refine relPure Ext.refl rfl rfl rfl rfl (c := .int .i64 (q : Int)) (fun w hw => by have := C1.out _ (bw5.trans (hw.drew.mono bw5.size)); go_simp; first | done | rfl) (by simp only [List.set_cons_succ, List.set_cons_zero]; rfl) ?_
        refine relCall1 rfl rfl rfl rfl (c := .agg (hcs gx)) 25 #[.agg (hcs z), .slice A5 m c5, .int .i64 (q : Int)] (fun w => by go_simp) (fun w hw => (HC.out A5 c5 w (rd5.below hw.drew) (hT.below (bwr5.trans (hw.drew.mono bwr5.size)))).mono ?_) (by simp only [List.set_cons_succ, List.set_cons_zero]; rfl) ?_
        · rintro e w' ⟨rfl, b⟩
          exact ⟨rfl, b⟩
        refine relPure Ext.refl rfl rfl rfl rfl (c := .agg (hcs gx)) (fun w hw => exec_loadAv (aG5.below hw.drew) _ _ rfl rfl _ 32 gxv32.out Tryd.underlying28 rfl (by kernel_rfl)) (by simp only [List.set_cons_succ, List.set_cons_zero]; rfl) ?_
        refine relBin Ext.refl rfl rfl rfl rfl _ _ _ _ _ rfl (by conv => lhs; whnf) (by conv => lhs; whnf) (c := .bool false) (fun w => NG.out _ _ w) (by simp only [List.set_cons_succ, List.set_cons_zero]; rfl) ?_
        refine relPick Ext.refl rfl rfl rfl rfl _ _ _ rfl rfl (by conv => lhs; whnf) (by simp only [List.set_cons_succ, List.set_cons_zero]; rfl) ?_
        refine relMove Ext.refl rfl rfl rfl rfl _ (.inl rfl) (by conv => lhs; whnf) (by simp only [List.set_cons_succ, List.set_cons_zero]; rfl) ?_
        refine relPure Ext.refl rfl rfl rfl rfl (c := .agg ((trc tot Ah nh ch Af nf cf)).toArray) (fun w hw => exec_loadAv (aX5.below hw.drew) _ _ rfl rfl _ 3 rfl Tryd.underlying26 rfl (by kernel_rfl)) (by simp only [List.set_cons_succ, List.set_cons_zero]; rfl) ?_
        refine relCall1 rfl rfl rfl rfl (c := .agg (trc tot Ah nh ch Af nf cf).toArray) 12 #[.agg (trc tot Ah nh ch Af nf cf).toArray] (fun w => by go_simp) (fun w hw => (HP.out w).mono ?_) (by simp only [List.set_cons_succ, List.set_cons_zero]; rfl) ?_
        · rintro e w' ⟨rfl, b⟩
          exact ⟨rfl, b⟩
        refine relPure Ext.refl rfl rfl rfl rfl (c := .agg (hcs gx)) (fun w hw => exec_loadAv (aG5.below hw.drew) _ _ rfl rfl _ 32 gxv32.out Tryd.underlying28 rfl (by kernel_rfl)) (by simp only [List.set_cons_succ, List.set_cons_zero]; rfl) ?_
        refine relMove Ext.refl rfl rfl rfl rfl _ (.inl rfl) (by conv => lhs; whnf) (by simp only [List.set_cons_succ, List.set_cons_zero]; rfl) ?_
        refine relMove Ext.refl rfl rfl rfl rfl _ (.inl rfl) (by conv => lhs; whnf) (by simp only [List.set_cons_succ, List.set_cons_zero]; rfl) ?_
        refine relPure Ext.refl rfl rfl rfl rfl (c := .pointer (some ⟨bX, oX + j * 33, none⟩)) (fun w _ => by go_simp; first | done | rfl) (by simp only [List.set_cons_succ, List.set_cons_zero]; rfl) ?_
        refine relPure Ext.refl rfl rfl rfl rfl (c := .pointer (some ⟨bX, oX + j * 33, none⟩)) (fun w _ => by go_simp; first | done | rfl) (by simp only [List.set_cons_succ, List.set_cons_zero]; rfl) ?_
        refine relPure Ext.refl rfl rfl rfl rfl (c := .int .i64 (q : Int)) (fun w hw => by have := C1.out _ (bw5.trans (hw.drew.mono bw5.size)); go_simp; first | done | rfl) (by simp only [List.set_cons_succ, List.set_cons_zero]; rfl) ?_
        refine relMove Ext.refl rfl rfl rfl rfl _ (.inl rfl) (by conv => lhs; whnf) (by simp only [List.set_cons_succ, List.set_cons_zero]; rfl) ?_
        refine relMove Ext.refl rfl rfl rfl rfl _ (.inl rfl) (by conv => lhs; whnf) (by simp only [List.set_cons_succ, List.set_cons_zero]; rfl) ?_
        refine relPure Ext.refl rfl rfl rfl rfl (c := .pointer (some ⟨bX, oX + j * 33, none⟩)) (fun w _ => by go_simp; first | done | rfl) (by simp only [List.set_cons_succ, List.set_cons_zero]; rfl) ?_
        refine relPure Ext.refl rfl rfl rfl rfl (c := .pointer (some ⟨bX, oX + j * 33 + 1, none⟩)) (fun w _ => by go_simp; first | done | rfl) (by simp only [List.set_cons_succ, List.set_cons_zero]; rfl) ?_
        refine relPure Ext.refl rfl rfl rfl rfl (c := .agg (hcs z)) (fun w hw => exec_load_mid _ _ rfl bX (oX + j * 33 + 1) rfl (z.map bv) _ (C2.out _ (bw5.trans (hw.drew.mono bw5.size))) Tryd.underlying28 rfl (by rw [zv32.out]; kernel_rfl)) (by simp only [List.set_cons_succ, List.set_cons_zero]; rfl) ?_
        refine relCall1 rfl rfl rfl rfl (c := .bool true) 17 #[.agg (trc tot Ah nh ch Af nf cf).toArray, .agg (hcs gx), .int .i64 (q : Int), .agg (hcs z)] (fun w => by go_simp) (fun w hw => (HK.out w (hrh.below (bwr5.trans (hw.drew.mono bwr5.size))) (hrf.below (bwr5.trans (hw.drew.mono bwr5.size))) (hT.below (bwr5.trans (hw.drew.mono bwr5.size)))).mono ?_) (by simp only [List.set_cons_succ, List.set_cons_zero]; rfl) ?_
        · rintro e w' ⟨rfl, b⟩
          exact ⟨rfl, b⟩
        refine relPure Ext.refl rfl rfl rfl rfl (c := .bool false) (fun w _ => by go_simp; first | done | rfl) (by simp only [List.set_cons_succ, List.set_cons_zero]; rfl) ?_
        refine relPick Ext.refl rfl rfl rfl rfl _ _ _ rfl rfl (by conv => lhs; whnf) (by simp only [List.set_cons_succ, List.set_cons_zero]; rfl) ?_
        refine relEnd fun w7 hw7 => fill_end ?_
        have bw7 := bw5.trans (hw7.drew.mono bw5.size)
        go_wp2
        refine ⟨⟨j + 1, true, by omega, rfl, by go_num, Lib.hid (by rw [hF.out]; rfl), bw7⟩, ?_⟩
        simp only [intOf]
        omega
      · have e1 : ((q : Int) == pos) = false := hB.out.symm
        go_upto_region 11 with fail
        clear cr
        refine wp_region_rel [] Ext (by kernel_rfl) (by kernel_rfl) (by kernel_rfl) Ext.refl Ext.trans (by intro p hp; cases hp) ?_
        refine relMove Ext.refl rfl rfl rfl rfl _ (.inl rfl) (by conv => lhs; whnf) (by simp only [List.set_cons_succ, List.set_cons_zero]; rfl) ?_
        refine relPure Ext.refl rfl rfl rfl rfl (c := .bool false) (fun w _ => by go_simp; first | done | rfl) (by simp only [List.set_cons_succ, List.set_cons_zero]; rfl) ?_
        refine relMove Ext.refl rfl rfl rfl rfl _ (.inl rfl) (by conv => lhs; whnf) (by simp only [List.set_cons_succ, List.set_cons_zero]; rfl) ?_
        refine relMove Ext.refl rfl rfl rfl rfl _ (.inl rfl) (by conv => lhs; whnf) (by simp only [List.set_cons_succ, List.set_cons_zero]; rfl) ?_
        refine relPure Ext.refl rfl rfl rfl rfl (c := .int .i64 (m : Int)) (fun w _ => by go_simp; first | done | rfl) (by simp only [List.set_cons_succ, List.set_cons_zero]; rfl) ?_
        refine relPure Ext.refl rfl rfl rfl rfl (fun w _ => by go_simp; first | done | rfl) (by simp only [List.set_cons_succ, List.set_cons_zero]; rfl) ?_
        refine relPure Ext.refl rfl rfl rfl rfl (c := .int .u32 (tot : Int)) (fun w hw => by have := (aX5.below hw.drew).cell 0 _ rfl; go_simp; first | done | rfl) (by simp only [List.set_cons_succ, List.set_cons_zero]; rfl) ?_
        refine relPure Ext.refl rfl rfl rfl rfl (c := .int .i64 (tot : Int)) (fun w _ => by have := wt.out; go_simp; first | done | rfl) (by simp only [List.set_cons_succ, List.set_cons_zero]; rfl) ?_
        refine relCall1 rfl rfl rfl rfl (c := .int .i64 (m : Int)) 24 #[.int .i64 (tot : Int)] (fun w => by go_simp) (fun w hw => (HH.out w).mono ?_) (by simp only [List.set_cons_succ, List.set_cons_zero]; rfl) ?_
        · rintro e w' ⟨rfl, rfl⟩
          exact ⟨rfl, Ext.refl _⟩
        refine relPure Ext.refl rfl rfl rfl rfl (c := .bool false) (fun w _ => by go_simp; first | done | rfl) (by simp only [List.set_cons_succ, List.set_cons_zero]; rfl) ?_
        refine relPick Ext.refl rfl rfl rfl rfl _ _ _ rfl rfl (by conv => lhs; whnf) (by simp only [List.set_cons_succ, List.set_cons_zero]; rfl) ?_
        refine relMove Ext.refl rfl rfl rfl rfl _ (.inl rfl) (by conv => lhs; whnf) (by simp only [List.set_cons_succ, List.set_cons_zero]; rfl) ?_
        refine relMove Ext.refl rfl rfl rfl rfl _ (.inl rfl) (by conv => lhs; whnf) (by simp only [List.set_cons_succ, List.set_cons_zero]; rfl) ?_
        refine relMove Ext.refl rfl rfl rfl rfl _ (.inl rfl) (by conv => lhs; whnf) (by simp only [List.set_cons_succ, List.set_cons_zero]; rfl) ?_
        refine relPure Ext.refl rfl rfl rfl rfl (c := .pointer (some ⟨bX, oX + j * 33, none⟩)) (fun w _ => by go_simp; first | done | rfl) (by simp only [List.set_cons_succ, List.set_cons_zero]; rfl) ?_
        refine relPure Ext.refl rfl rfl rfl rfl (c := .pointer (some ⟨bX, oX + j * 33 + 1, none⟩)) (fun w _ => by go_simp; first | done | rfl) (by simp only [List.set_cons_succ, List.set_cons_zero]; rfl) ?_
        refine relPure Ext.refl rfl rfl rfl rfl (c := .agg (hcs z)) (fun w hw => exec_load_mid _ _ rfl bX (oX + j * 33 + 1) rfl (z.map bv) _ (C2.out _ (bw5.trans (hw.drew.mono bw5.size))) Tryd.underlying28 rfl (by rw [zv32.out]; kernel_rfl)) (by simp only [List.set_cons_succ, List.set_cons_zero]; rfl) ?_
        refine relMove Ext.refl rfl rfl rfl rfl _ (.inl rfl) (by conv => lhs; whnf) (by simp only [List.set_cons_succ, List.set_cons_zero]; rfl) ?_
        refine relMove Ext.refl rfl rfl rfl rfl _ (.inl rfl) (by conv => lhs; whnf) (by simp only [List.set_cons_succ, List.set_cons_zero]; rfl) ?_
        refine relMove Ext.refl rfl rfl rfl rfl _ (.inl rfl) (by conv => lhs; whnf) (by simp only [List.set_cons_succ, List.set_cons_zero]; rfl) ?_
        refine relPure Ext.refl rfl rfl rfl rfl (c := .pointer (some ⟨bX, oX + j * 33, none⟩)) (fun w _ => by go_simp; first | done | rfl) (by simp only [List.set_cons_succ, List.set_cons_zero]; rfl) ?_
        refine relPure Ext.refl rfl rfl rfl rfl (c := .pointer (some ⟨bX, oX + j * 33, none⟩)) (fun w _ => by go_simp; first | done | rfl) (by simp only [List.set_cons_succ, List.set_cons_zero]; rfl) ?_
        refine relPure Ext.refl rfl rfl rfl rfl (c := .int .i64 (q : Int)) (fun w hw => by have := C1.out _ (bw5.trans (hw.drew.mono bw5.size)); go_simp; first | done | rfl) (by simp only [List.set_cons_succ, List.set_cons_zero]; rfl) ?_
        refine relCall1 rfl rfl rfl rfl (c := .agg (hcs gx)) 25 #[.agg (hcs z), .slice A5 m c5, .int .i64 (q : Int)] (fun w => by go_simp) (fun w hw => (HC.out A5 c5 w (rd5.below hw.drew) (hT.below (bwr5.trans (hw.drew.mono bwr5.size)))).mono ?_) (by simp only [List.set_cons_succ, List.set_cons_zero]; rfl) ?_
        · rintro e w' ⟨rfl, b⟩
          exact ⟨rfl, b⟩
        refine relPure Ext.refl rfl rfl rfl rfl (c := .agg (hcs gx)) (fun w hw => exec_loadAv (aG5.below hw.drew) _ _ rfl rfl _ 32 gxv32.out Tryd.underlying28 rfl (by kernel_rfl)) (by simp only [List.set_cons_succ, List.set_cons_zero]; rfl) ?_
        refine relBin Ext.refl rfl rfl rfl rfl _ _ _ _ _ rfl (by conv => lhs; whnf) (by conv => lhs; whnf) (c := .bool false) (fun w => NG.out _ _ w) (by simp only [List.set_cons_succ, List.set_cons_zero]; rfl) ?_
        refine relPick Ext.refl rfl rfl rfl rfl _ _ _ rfl rfl (by conv => lhs; whnf) (by simp only [List.set_cons_succ, List.set_cons_zero]; rfl) ?_
        refine relMove Ext.refl rfl rfl rfl rfl _ (.inl rfl) (by conv => lhs; whnf) (by simp only [List.set_cons_succ, List.set_cons_zero]; rfl) ?_
        refine relPure Ext.refl rfl rfl rfl rfl (c := .agg ((trc tot Ah nh ch Af nf cf)).toArray) (fun w hw => exec_loadAv (aX5.below hw.drew) _ _ rfl rfl _ 3 rfl Tryd.underlying26 rfl (by kernel_rfl)) (by simp only [List.set_cons_succ, List.set_cons_zero]; rfl) ?_
        refine relCall1 rfl rfl rfl rfl (c := .agg (trc tot Ah nh ch Af nf cf).toArray) 12 #[.agg (trc tot Ah nh ch Af nf cf).toArray] (fun w => by go_simp) (fun w hw => (HP.out w).mono ?_) (by simp only [List.set_cons_succ, List.set_cons_zero]; rfl) ?_
        · rintro e w' ⟨rfl, b⟩
          exact ⟨rfl, b⟩
        refine relPure Ext.refl rfl rfl rfl rfl (c := .agg (hcs gx)) (fun w hw => exec_loadAv (aG5.below hw.drew) _ _ rfl rfl _ 32 gxv32.out Tryd.underlying28 rfl (by kernel_rfl)) (by simp only [List.set_cons_succ, List.set_cons_zero]; rfl) ?_
        refine relMove Ext.refl rfl rfl rfl rfl _ (.inl rfl) (by conv => lhs; whnf) (by simp only [List.set_cons_succ, List.set_cons_zero]; rfl) ?_
        refine relMove Ext.refl rfl rfl rfl rfl _ (.inl rfl) (by conv => lhs; whnf) (by simp only [List.set_cons_succ, List.set_cons_zero]; rfl) ?_
        refine relPure Ext.refl rfl rfl rfl rfl (c := .pointer (some ⟨bX, oX + j * 33, none⟩)) (fun w _ => by go_simp; first | done | rfl) (by simp only [List.set_cons_succ, List.set_cons_zero]; rfl) ?_
        refine relPure Ext.refl rfl rfl rfl rfl (c := .pointer (some ⟨bX, oX + j * 33, none⟩)) (fun w _ => by go_simp; first | done | rfl) (by simp only [List.set_cons_succ, List.set_cons_zero]; rfl) ?_
        refine relPure Ext.refl rfl rfl rfl rfl (c := .int .i64 (q : Int)) (fun w hw => by have := C1.out _ (bw5.trans (hw.drew.mono bw5.size)); go_simp; first | done | rfl) (by simp only [List.set_cons_succ, List.set_cons_zero]; rfl) ?_
        refine relMove Ext.refl rfl rfl rfl rfl _ (.inl rfl) (by conv => lhs; whnf) (by simp only [List.set_cons_succ, List.set_cons_zero]; rfl) ?_
        refine relMove Ext.refl rfl rfl rfl rfl _ (.inl rfl) (by conv => lhs; whnf) (by simp only [List.set_cons_succ, List.set_cons_zero]; rfl) ?_
        refine relPure Ext.refl rfl rfl rfl rfl (c := .pointer (some ⟨bX, oX + j * 33, none⟩)) (fun w _ => by go_simp; first | done | rfl) (by simp only [List.set_cons_succ, List.set_cons_zero]; rfl) ?_
        refine relPure Ext.refl rfl rfl rfl rfl (c := .pointer (some ⟨bX, oX + j * 33 + 1, none⟩)) (fun w _ => by go_simp; first | done | rfl) (by simp only [List.set_cons_succ, List.set_cons_zero]; rfl) ?_
        refine relPure Ext.refl rfl rfl rfl rfl (c := .agg (hcs z)) (fun w hw => exec_load_mid _ _ rfl bX (oX + j * 33 + 1) rfl (z.map bv) _ (C2.out _ (bw5.trans (hw.drew.mono bw5.size))) Tryd.underlying28 rfl (by rw [zv32.out]; kernel_rfl)) (by simp only [List.set_cons_succ, List.set_cons_zero]; rfl) ?_
        refine relCall1 rfl rfl rfl rfl (c := .bool true) 17 #[.agg (trc tot Ah nh ch Af nf cf).toArray, .agg (hcs gx), .int .i64 (q : Int), .agg (hcs z)] (fun w => by go_simp) (fun w hw => (HK.out w (hrh.below (bwr5.trans (hw.drew.mono bwr5.size))) (hrf.below (bwr5.trans (hw.drew.mono bwr5.size))) (hT.below (bwr5.trans (hw.drew.mono bwr5.size)))).mono ?_) (by simp only [List.set_cons_succ, List.set_cons_zero]; rfl) ?_
        · rintro e w' ⟨rfl, b⟩
          exact ⟨rfl, b⟩
        refine relPure Ext.refl rfl rfl rfl rfl (c := .bool false) (fun w _ => by go_simp; first | done | rfl) (by simp only [List.set_cons_succ, List.set_cons_zero]; rfl) ?_
        refine relPick Ext.refl rfl rfl rfl rfl _ _ _ rfl rfl (by conv => lhs; whnf) (by simp only [List.set_cons_succ, List.set_cons_zero]; rfl) ?_
        refine relEnd fun w7 hw7 => fill_end ?_
        have bw7 := bw5.trans (hw7.drew.mono bw5.size)
        go_wp2
        refine ⟨⟨j + 1, true, by omega, rfl, by go_num, Lib.hid (by rw [hF.out]; rfl), bw7⟩, ?_⟩
        simp only [intOf]
        omega
      · have e1 : ((q : Int) == pos) = true := hB.out.symm
        go_upto_region 11 with fail
        clear cr
        refine wp_region_rel [] Ext (by kernel_rfl) (by kernel_rfl) (by kernel_rfl) Ext.refl Ext.trans (by intro p hp; cases hp) ?_
        refine relMove Ext.refl rfl rfl rfl rfl _ (.inl rfl) (by conv => lhs; whnf) (by simp only [List.set_cons_succ, List.set_cons_zero]; rfl) ?_
        refine relPure Ext.refl rfl rfl rfl rfl (c := .bool false) (fun w _ => by go_simp; first | done | rfl) (by simp only [List.set_cons_succ, List.set_cons_zero]; rfl) ?_
        refine relMove Ext.refl rfl rfl rfl rfl _ (.inl rfl) (by conv => lhs; whnf) (by simp only [List.set_cons_succ, List.set_cons_zero]; rfl) ?_
        refine relMove Ext.refl rfl rfl rfl rfl _ (.inl rfl) (by conv => lhs; whnf) (by simp only [List.set_cons_succ, List.set_cons_zero]; rfl) ?_
        refine relPure Ext.refl rfl rfl rfl rfl (c := .int .i64 (m : Int)) (fun w _ => by go_simp; first | done | rfl) (by simp only [List.set_cons_succ, List.set_cons_zero]; rfl) ?_
        refine relPure Ext.refl rfl rfl rfl rfl (fun w _ => by go_simp; first | done | rfl) (by simp only [List.set_cons_succ, List.set_cons_zero]; rfl) ?_
        refine relPure Ext.refl rfl rfl rfl rfl (c := .int .u32 (tot : Int)) (fun w hw => by have := (aX5.below hw.drew).cell 0 _ rfl; go_simp; first | done | rfl) (by simp only [List.set_cons_succ, List.set_cons_zero]; rfl) ?_
        refine relPure Ext.refl rfl rfl rfl rfl (c := .int .i64 (tot : Int)) (fun w _ => by have := wt.out; go_simp; first | done | rfl) (by simp only [List.set_cons_succ, List.set_cons_zero]; rfl) ?_
        refine relCall1 rfl rfl rfl rfl (c := .int .i64 (m : Int)) 24 #[.int .i64 (tot : Int)] (fun w => by go_simp) (fun w hw => (HH.out w).mono ?_) (by simp only [List.set_cons_succ, List.set_cons_zero]; rfl) ?_
        · rintro e w' ⟨rfl, rfl⟩
          exact ⟨rfl, Ext.refl _⟩
        refine relPure Ext.refl rfl rfl rfl rfl (c := .bool false) (fun w _ => by go_simp; first | done | rfl) (by simp only [List.set_cons_succ, List.set_cons_zero]; rfl) ?_
        refine relPick Ext.refl rfl rfl rfl rfl _ _ _ rfl rfl (by conv => lhs; whnf) (by simp only [List.set_cons_succ, List.set_cons_zero]; rfl) ?_
        refine relMove Ext.refl rfl rfl rfl rfl _ (.inl rfl) (by conv => lhs; whnf) (by simp only [List.set_cons_succ, List.set_cons_zero]; rfl) ?_
        refine relMove Ext.refl rfl rfl rfl rfl _ (.inl rfl) (by conv => lhs; whnf) (by simp only [List.set_cons_succ, List.set_cons_zero]; rfl) ?_
        refine relMove Ext.refl rfl rfl rfl rfl _ (.inl rfl) (by conv => lhs; whnf) (by simp only [List.set_cons_succ, List.set_cons_zero]; rfl) ?_
        refine relPure Ext.refl rfl rfl rfl rfl (c := .pointer (some ⟨bX, oX + j * 33, none⟩)) (fun w _ => by go_simp; first | done | rfl) (by simp only [List.set_cons_succ, List.set_cons_zero]; rfl) ?_
        refine relPure Ext.refl rfl rfl rfl rfl (c := .pointer (some ⟨bX, oX + j * 33 + 1, none⟩)) (fun w _ => by go_simp; first | done | rfl) (by simp only [List.set_cons_succ, List.set_cons_zero]; rfl) ?_
        refine relPure Ext.refl rfl rfl rfl rfl (c := .agg (hcs z)) (fun w hw => exec_load_mid _ _ rfl bX (oX + j * 33 + 1) rfl (z.map bv) _ (C2.out _ (bw5.trans (hw.drew.mono bw5.size))) Tryd.underlying28 rfl (by rw [zv32.out]; kernel_rfl)) (by simp only [List.set_cons_succ, List.set_cons_zero]; rfl) ?_
        refine relMove Ext.refl rfl rfl rfl rfl _ (.inl rfl) (by conv => lhs; whnf) (by simp only [List.set_cons_succ, List.set_cons_zero]; rfl) ?_
        refine relMove Ext.refl rfl rfl rfl rfl _ (.inl rfl) (by conv => lhs; whnf) (by simp only [List.set_cons_succ, List.set_cons_zero]; rfl) ?_
        refine relMove Ext.refl rfl rfl rfl rfl _ (.inl rfl) (by conv => lhs; whnf) (by simp only [List.set_cons_succ, List.set_cons_zero]; rfl) ?_
        refine relPure Ext.refl rfl rfl rfl rfl (c := .pointer (some ⟨bX, oX + j * 33, none⟩)) (fun w _ => by go_simp; first | done | rfl) (by simp only [List.set_cons_succ, List.set_cons_zero]; rfl) ?_
        refine relPure Ext.refl rfl rfl rfl rfl (c := .pointer (some ⟨bX, oX + j * 33, none⟩)) (fun w _ => by go_simp; first | done | rfl) (by simp only [List.set_cons_succ, List.set_cons_zero]; rfl) ?_
        refine relPure Ext.refl rfl rfl rfl rfl (c := .int .i64 (q : Int)) (fun w hw => by have := C1.out _ (bw5.trans (hw.drew.mono bw5.size)); go_simp; first | done | rfl) (by simp only [List.set_cons_succ, List.set_cons_zero]; rfl) ?_
        refine relCall1 rfl rfl rfl rfl (c := .agg (hcs gx)) 25 #[.agg (hcs z), .slice A5 m c5, .int .i64 (q : Int)] (fun w => by go_simp) (fun w hw => (HC.out A5 c5 w (rd5.below hw.drew) (hT.below (bwr5.trans (hw.drew.mono bwr5.size)))).mono ?_) (by simp only [List.set_cons_succ, List.set_cons_zero]; rfl) ?_
        · rintro e w' ⟨rfl, b⟩
          exact ⟨rfl, b⟩
        refine relPure Ext.refl rfl rfl rfl rfl (c := .agg (hcs gx)) (fun w hw => exec_loadAv (aG5.below hw.drew) _ _ rfl rfl _ 32 gxv32.out Tryd.underlying28 rfl (by kernel_rfl)) (by simp only [List.set_cons_succ, List.set_cons_zero]; rfl) ?_
        refine relBin Ext.refl rfl rfl rfl rfl _ _ _ _ _ rfl (by conv => lhs; whnf) (by conv => lhs; whnf) (c := .bool false) (fun w => NG.out _ _ w) (by simp only [List.set_cons_succ, List.set_cons_zero]; rfl) ?_
        refine relPick Ext.refl rfl rfl rfl rfl _ _ _ rfl rfl (by conv => lhs; whnf) (by simp only [List.set_cons_succ, List.set_cons_zero]; rfl) ?_
        refine relMove Ext.refl rfl rfl rfl rfl _ (.inl rfl) (by conv => lhs; whnf) (by simp only [List.set_cons_succ, List.set_cons_zero]; rfl) ?_
        refine relPure Ext.refl rfl rfl rfl rfl (c := .agg ((trc tot Ah nh ch Af nf cf)).toArray) (fun w hw => exec_loadAv (aX5.below hw.drew) _ _ rfl rfl _ 3 rfl Tryd.underlying26 rfl (by kernel_rfl)) (by simp only [List.set_cons_succ, List.set_cons_zero]; rfl) ?_
        refine relCall1 rfl rfl rfl rfl (c := .agg (trc tot Ah nh ch Af nf cf).toArray) 12 #[.agg (trc tot Ah nh ch Af nf cf).toArray] (fun w => by go_simp) (fun w hw => (HP.out w).mono ?_) (by simp only [List.set_cons_succ, List.set_cons_zero]; rfl) ?_
        · rintro e w' ⟨rfl, b⟩
          exact ⟨rfl, b⟩
        refine relPure Ext.refl rfl rfl rfl rfl (c := .agg (hcs gx)) (fun w hw => exec_loadAv (aG5.below hw.drew) _ _ rfl rfl _ 32 gxv32.out Tryd.underlying28 rfl (by kernel_rfl)) (by simp only [List.set_cons_succ, List.set_cons_zero]; rfl) ?_
        refine relMove Ext.refl rfl rfl rfl rfl _ (.inl rfl) (by conv => lhs; whnf) (by simp only [List.set_cons_succ, List.set_cons_zero]; rfl) ?_
        refine relMove Ext.refl rfl rfl rfl rfl _ (.inl rfl) (by conv => lhs; whnf) (by simp only [List.set_cons_succ, List.set_cons_zero]; rfl) ?_
        refine relPure Ext.refl rfl rfl rfl rfl (c := .pointer (some ⟨bX, oX + j * 33, none⟩)) (fun w _ => by go_simp; first | done | rfl) (by simp only [List.set_cons_succ, List.set_cons_zero]; rfl) ?_
        refine relPure Ext.refl rfl rfl rfl rfl (c := .pointer (some ⟨bX, oX + j * 33, none⟩)) (fun w _ => by go_simp; first | done | rfl) (by simp only [List.set_cons_succ, List.set_cons_zero]; rfl) ?_
        refine relPure Ext.refl rfl rfl rfl rfl (c := .int .i64 (q : Int)) (fun w hw => by have := C1.out _ (bw5.trans (hw.drew.mono bw5.size)); go_simp; first | done | rfl) (by simp only [List.set_cons_succ, List.set_cons_zero]; rfl) ?_
        refine relMove Ext.refl rfl rfl rfl rfl _ (.inl rfl) (by conv => lhs; whnf) (by simp only [List.set_cons_succ, List.set_cons_zero]; rfl) ?_
        refine relMove Ext.refl rfl rfl rfl rfl _ (.inl rfl) (by conv => lhs; whnf) (by simp only [List.set_cons_succ, List.set_cons_zero]; rfl) ?_
        refine relPure Ext.refl rfl rfl rfl rfl (c := .pointer (some ⟨bX, oX + j * 33, none⟩)) (fun w _ => by go_simp; first | done | rfl) (by simp only [List.set_cons_succ, List.set_cons_zero]; rfl) ?_
        refine relPure Ext.refl rfl rfl rfl rfl (c := .pointer (some ⟨bX, oX + j * 33 + 1, none⟩)) (fun w _ => by go_simp; first | done | rfl) (by simp only [List.set_cons_succ, List.set_cons_zero]; rfl) ?_
        refine relPure Ext.refl rfl rfl rfl rfl (c := .agg (hcs z)) (fun w hw => exec_load_mid _ _ rfl bX (oX + j * 33 + 1) rfl (z.map bv) _ (C2.out _ (bw5.trans (hw.drew.mono bw5.size))) Tryd.underlying28 rfl (by rw [zv32.out]; kernel_rfl)) (by simp only [List.set_cons_succ, List.set_cons_zero]; rfl) ?_
        refine relCall1 rfl rfl rfl rfl (c := .bool true) 17 #[.agg (trc tot Ah nh ch Af nf cf).toArray, .agg (hcs gx), .int .i64 (q : Int), .agg (hcs z)] (fun w => by go_simp) (fun w hw => (HK.out w (hrh.below (bwr5.trans (hw.drew.mono bwr5.size))) (hrf.below (bwr5.trans (hw.drew.mono bwr5.size))) (hT.below (bwr5.trans (hw.drew.mono bwr5.size)))).mono ?_) (by simp only [List.set_cons_succ, List.set_cons_zero]; rfl) ?_
        · rintro e w' ⟨rfl, b⟩
          exact ⟨rfl, b⟩
        refine relPure Ext.refl rfl rfl rfl rfl (c := .bool false) (fun w _ => by go_simp; first | done | rfl) (by simp only [List.set_cons_succ, List.set_cons_zero]; rfl) ?_
        refine relPick Ext.refl rfl rfl rfl rfl _ _ _ rfl rfl (by conv => lhs; whnf) (by simp only [List.set_cons_succ, List.set_cons_zero]; rfl) ?_
        refine relEnd fun w7 hw7 => fill_end ?_
        have bw7 := bw5.trans (hw7.drew.mono bw5.size)
        go_wp2
        refine ⟨⟨j + 1, true, by omega, rfl, by go_num, Lib.hid (by rw [hF.out]; rfl), bw7⟩, ?_⟩
        simp only [intOf]
        omega
    · obtain rfl : j = n := by omega
      have u1 : decide ((j : Int) < (j : Int)) = false := by simp
      have hO2 := q2.out
      rw [← hF.out] at hO2
      have bwr := bw50.trans (bw.mono bw50.size)
      have aX6 := aX50.below bw
      clear hF
      replace hO2 := Lib.hid hO2
      go_upto_region 14 with (first
        | ((with_reducible refine wpList_loadF 26 aX6 ?_ _ 3 (rfl) Tryd.underlying26 ?_ ?_ ?_); rfl; rfl; kernel_rfl)
        | (go_at_call 12; refine (HP.out wr).mono ?_; rintro e w6 ⟨rfl, b6⟩; have bw6 := bwr.trans (b6.mono bwr.size))
        | (go_at_call 11; refine (HQ2.out w6 (hrh.below bw6) (hrf.below bw6) (hT.below bw6)).mono ?_; rintro e w8 ⟨b8, A8, m8, c8, rfl, hm8, hm12, hm0⟩))
      have bw8 := bw6.trans (b8.mono bw6.size)
      have hO3 := hO2.out
      subst hO3
      replace hm0 := Lib.hid hm0
      clear hO2 hO q2 aX6 b6 b8 bw6 bwr
      rcases hE2.out with e0 | ⟨e0, e1⟩
      · subst e0
        clear hE2 hE
        cases O with
        | true =>
          go_wp2
          go_ret
          exact ⟨rfl, bw8⟩
        | false =>
          have := hm0.out rfl
          subst this
          clear hm0
          go_wp2
          go_ret
          exact ⟨rfl, bw8⟩
      · subst e0
        have e2 : ((j : Int) == 0) = true := by rw [e1]; rfl
        clear hE2 hE e1
        cases O with
        | true =>
          go_wp2
          go_ret
          exact ⟨rfl, bw8⟩
        | false =>
          have := hm0.out rfl
          subst this
          clear hm0
          go_wp2
          go_ret
          exact ⟨rfl, bw8⟩
theorem law_ProofClimbs (tot : Nat) (hs : List (List UInt8)) (fl : List UInt8) (Ah Af : Option Addr) (nh ch nf cf : Nat) (htot : tot < 4294967296) (hnh : hs.length = nh) (h32 : All32 hs) (_ : nh ≤ ch) (hnf : fl.length = nf) (_ : nf ≤ cf) (pos : Int) (w : World) (hrh : Rd w Ah (hcl hs)) (hrf : Rd w Af (fl.map bv)) (hT : Tabs w) : Calls Tryd.prog 6 #[.agg (trc tot Ah nh ch Af nf cf).toArray, .int .i64 pos] w fun e w' => e = .returned (.bool true) ∧ Below w.heap.size w w' := by
  by_cases h : nh ≤ 60 ∧ nf ≤ 60
  · exact pclm_1 tot hs fl Ah Af nh ch nf cf htot hnh h32 hnf pos w hrh hrf hT h.1 h.2
  · exact pclm_0 tot Ah Af nh ch nf cf pos (by simp only [h, decide_false]) w hT
end Go.Proofs.YtdkknincamkhpaaDoor
