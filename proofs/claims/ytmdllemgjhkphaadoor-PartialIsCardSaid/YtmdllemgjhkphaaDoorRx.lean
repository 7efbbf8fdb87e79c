/- florinref11.Build. -/
import Derived.Test.YtmdllemgjhkphaaDoorRs
import Derived.Test.YtmdllemgjhkphaaDoorPr19
namespace Go.Proofs.YtmdllemgjhkphaaDoor
open Go.RowKit
set_option maxRecDepth 10000 in
set_option maxHeartbeats 2000000 in
theorem MVisit (ms : List Bool) (nm cm : Nat) (Am : Option Addr) (n : Nat) (hnm : ms.length = nm) (hnm2 : nm ≤ 1000000) (hn0 : 0 < n) (hn : n ≤ 4096) (ls : List (List (List UInt8))) (ps : List (Option Addr × Nat)) (Al : Option Addr) (nl cl G : Nat) (w0 : World) (hrm : Rd w0 Am (ms.map Value.bool)) (hra : Rd w0 Al (scl ps ls)) (hlv : LvAt w0 ps ls) (hnl : ls.length = nl) (hl32 : ∀ l ∈ ls, All32 l) (hBG : w0.heap.size ≤ G)
    (H : Nat) (hH : H ≤ 12) (hat : ∀ h i, h ≤ H → i < pWd n h → ∃ x, ls[h]? = some x ∧ i < x.length) :
    ∀ (h : Nat), h ≤ H → ∀ (i : Nat), i < pWd n h → ∀ (ds : List Bool) (hh : List (List UInt8)) (D V : Value) (w : World), ds.length + 2 ^ (h + 1) ≤ 50000 → hh.length + 2 ^ (h + 1) ≤ 50000 → Below w0.heap.size w0 w → Av w G 76 (mkc n Am nm cm Al nl cl D V) → w.ownsRow w0.heap.size 4 1 D ds.length (ds.map Value.bool) → w.ownsRow w0.heap.size 28 32 V hh.length (hcl hh) →
    Calls Tryd.prog 30 #[.pointer (some ⟨G, 0, none⟩), .int .i64 (h : Int), .int .i64 (i : Int)] w (MVPost n Am nm cm Al nl cl G w0 ls ds hh (pVis n ms h i)) := by
  intro h
  induction h with
  | zero =>
    intro hle i hi ds hh D V w hd hv hb hA oD oV
    obtain ⟨x, hx, hix⟩ := hat 0 i hle hi
    have hi4 := pWd_le n 0 hn0
    exact MV_leaf0 ms nm cm Am n hnm hnm2 hn0 hn ls ps Al nl cl G w0 hrm hra hlv hnl hl32 hBG i (by omega) ds hh D V w hb hA oD oV (by omega) (by omega) (pHas n ms 0 i) (by omega) rfl x hx hix
  | succ h' ih =>
    intro hle i hi ds hh D V w hd hv hb hA oD oV
    have hi4 := pWd_le n (h' + 1) hn0
    have hpp : 2 ^ (h' + 1 + 1) = 2 * 2 ^ (h' + 1) := by rw [Nat.pow_succ]; omega
    rw [show ((h' + 1 : Nat) : Int) = (h' : Int) + 1 by omega]
    rw [hpp] at hd hv
    cases hV : pHas n ms (h' + 1) i with
    | false =>
      obtain ⟨x, hx, hix⟩ := hat (h' + 1) i hle hi
      rw [pVis, hV, if_neg (by simp)]
      exact MV_leafS ms nm cm Am n hnm hnm2 hn0 hn ls ps Al nl cl G w0 hrm hra hlv hnl hl32 hBG i (by omega) ds hh D V w hb hA oD oV (by omega) (by omega) h' (by omega) hV x hx hix
    | true =>
      have hi2 := hi
      rw [pWd_succ] at hi2
      have hl1 := pVis_length n ms h' (2 * i)
      generalize hP : 2 ^ (h' + 1) = P at *
      have e1 : ((2 * i : Nat) : Int) = 2 * (i : Int) := by omega
      have e2 : ((2 * i + 1 : Nat) : Int) = 2 * (i : Int) + 1 := by omega
      have HV1 := ih (by omega) (2 * i) (by omega)
      rw [e1] at HV1
      rw [pVis, hV, if_pos rfl]
      by_cases hw : 2 * i + 1 < pWd n h'
      · have HV2 := ih (by omega) (2 * i + 1) hw
        rw [e2] at HV2
        rw [if_pos hw]
        exact MV_two ms nm cm Am n hnm hnm2 hn0 hn ls ps Al nl cl G w0 hrm hra hlv hnl hl32 hBG i (by omega) ds hh D V w hb hA oD oV (by omega) (by omega) h' (by omega) hV (50000 - 2 * P + 1) (by omega) (by omega) (50000 - P) (by omega) (fun s => by rw [pHs, List.length_map]; exact List.length_filter_le _ _) (fun ds hh D V w a b => HV1 ds hh D V w (by omega) (by omega)) (fun ds hh D V w a b => HV2 ds hh D V w (by omega) (by omega)) hw
      · rw [if_neg hw, List.append_nil]
        exact MV_one ms nm cm Am n hnm hnm2 hn0 hn ls ps Al nl cl G w0 hrm hra hlv hnl hl32 hBG i (by omega) ds hh D V w hb hA oD oV (by omega) (by omega) h' (by omega) hV (50000 - 2 * P + 1) (by omega) (by omega) (fun ds hh D V w a b => HV1 ds hh D V w (by omega) (by omega)) hw
theorem built_mkR (n : Nat) (Am : Option Addr) (nm cm : Nat) (Al : Option Addr) (nl cl : Nat) : Tryd.prog.built 76 [(0, .int .i64 (n : Int)), (1, .slice Am nm cm), (2, .slice Al nl cl)] = some (mkc n Am nm cm Al nl cl (.slice none 0 0) (.slice none 0 0)).toArray := by
  kernel_rfl
theorem exec_build_mkR {ρ : Operand → Value} {o : Oper} {w : World} (n : Nat) (Am : Option Addr) (nm cm : Nat) (Al : Option Addr) (nl cl : Nat) {x0 x1 x2 : Operand} (ho : o.op = .build 76 #[(0, x0), (1, x1), (2, x2)]) (h0 : ρ x0 = .int .i64 (n : Int)) (h1 : ρ x1 = .slice Am nm cm) (h2 : ρ x2 = .slice Al nl cl) :
    (execOp ρ o).run Tryd.prog w = .ok (.value (.agg (mkc n Am nm cm Al nl cl (.slice none 0 0) (.slice none 0 0)).toArray)) w := by
  have := run_build (P := Tryd.prog) w 76 #[(0, .int .i64 (n : Int)), (1, .slice Am nm cm), (2, .slice Al nl cl)] _ (built_mkR n Am nm cm Al nl cl)
  unfold execOp
  simp only [ho, Sem.run_bind, List.map_toArray, List.map_cons, List.map_nil, h0, h1, h2, this, Result.andThen_ok]
  rfl
theorem madeCells_u8R (k : Nat) : madeCells #[Value.int .u8 0] k = ((List.replicate k (0 : UInt8)).map bv).toArray := by
  apply Array.ext
  · simp [size_madeCells]
  · intro i h1 h2
    have e : i % 1 = 0 := Nat.mod_one i
    simp [madeCells, e, bv]
theorem info_u8R : (Tryd.prog.info? 5).map (fun i => (i.zero, i.size, i.bytes)) = some (some (.int .u8 0), 1, 1) := by kernel_rfl
theorem make_u8R (n : Nat) (hn : n ≤ 1000000) (u : World) : (Instr.makeSlice 24 (.int .i64 (n : Int)) (.int .i64 (n : Int))).run Tryd.prog u = .ok (.slice (some ⟨u.heap.size, 0, none⟩) n n) (u.alloc (.cells ((List.replicate n (0 : UInt8)).map bv).toArray 5)) := by
  obtain ⟨i0, hi, hz0, hz1, hz2⟩ := info_parts info_u8R
  have h := run_make (P := Tryd.prog) u 24 5 i0 (.int .u8 0) Tryd.underlying24 hi hz0 .i64 .i64 (n : Int) (n : Int) (by omega) (by omega) (by rw [hz2]; omega) (by omega)
  have e : (n : Int).toNat = n := by omega
  rw [e] at h
  simpa [hz1, Value.cells, madeCells_u8R] using h
set_option maxRecDepth 100000 in
set_option maxHeartbeats 8000000 in
theorem BuildR_no (A Am : Option Addr) (c nm cm : Nat) (w : World) :
    Calls Tryd.prog 14 #[.slice A 0 c, .slice Am nm cm] w fun e w' => e = .returned (.tuple #[.agg (trc 0 none 0 0 none 0 0).toArray, .bool false]) ∧ Below w.heap.size w w' := by
  obtain ⟨W, hW⟩ : ∃ W, W = w.alloc (.cells (trc 0 none 0 0 none 0 0).toArray 26) := ⟨_, rfl⟩
  obtain ⟨G, hG⟩ : ∃ G, G = w.heap.size := ⟨_, rfl⟩
  have bW : Below w.heap.size w W := by rw [hW]; exact (Below.refl _ _).alloc (Nat.le_refl _) _
  have aG : Av W G 26 (trc 0 none 0 0 none 0 0) := by rw [hW, hG]; exact Av.new _ _ _
  have hGw : w.heap.size ≤ G := by omega
  have hone : (trc 0 none 0 0 none 0 0).all (·.oneCell') = true := rfl
  have HLv := LevelsR [] (fun x hx => by cases hx) A 0 c rfl W (Rd.nil _ _)
  rw [show mLv [] = [] by rw [mLv, if_pos (.inl rfl)]] at HLv
  replace hW := Lib.hid hW
  replace hG := Lib.hid hG
  replace hone := Lib.hid hone
  replace HLv := Lib.hid HLv
  go_enter Tryd.func14, Tryd.ntmps14
  go_upto_region 1 with fail
  rw [← hG.out]
  rw [show w.alloc (.cells #[Value.int .u32 0, .slice none 0 0, .slice none 0 0] 26) = W from hW.out.symm]
  go_upto_region 2 with (go_at_call 29; refine (HLv.out).mono ?_; rintro e w2 ⟨v2, ps, rfl, o2, lv2, nv2, b2⟩; obtain ⟨Al, cl, rfl, hcl2, _⟩ := own_form o2)
  have aG2 := aG.below b2
  have bw2 := bW.trans (b2.mono bW.size)
  clear o2 nv2 lv2 b2
  go_wp2_with (first
    | ((with_reducible refine wpList_bld (.agg (trc 0 none 0 0 none 0 0).toArray) ?_ ?_); kernel_rfl)
    | ((with_reducible refine wpList_storeFA 26 bw2 aG2 hGw (trc 0 none 0 0 none 0 0) ?_ ?_ 3 rfl ?_ ?_ ?_ ?_); rfl; rfl; kernel_rfl; rfl; exact hone.out; intro w9 a9 b9 k9 z9))
  refine bodyPost_ret (v := .tuple #[.agg (trc 0 none 0 0 none 0 0).toArray, .bool false]) ((results_cellU (C := trc 0 none 0 0 none 0 0) (by rfl) (by rfl) a9 _ Tryd.underlying26 rfl 3 rfl (by kernel_rfl)).trans (by rfl)) (by rfl) ⟨rfl, b9⟩
set_option maxRecDepth 100000 in
set_option maxHeartbeats 8000000 in
theorem BuildR_yes (hs : List (List UInt8)) (h32 : All32 hs) (ms : List Bool) (A Am : Option Addr) (n c nm cm : Nat) (hnl : hs.length = n) (hnm : ms.length = nm) (hn0 : 0 < n) (hn : n ≤ 4096) (hnm2 : nm ≤ 1000000) (w : World) (hr : Rd w A (hcl hs)) (hrm : Rd w Am (ms.map Value.bool)) :
    Calls Tryd.prog 14 #[.slice A n c, .slice Am nm cm] w fun e w' => Below w.heap.size w w' ∧ ∃ Ah ch Af cf, e = .returned (.tuple #[.agg (trc n Ah (pBhs hs ms).length ch Af (pBfl n ms).length cf).toArray, .bool true]) ∧ (pBhs hs ms).length ≤ ch ∧ (pBfl n ms).length ≤ cf ∧ Rd w' Ah (hcl (pBhs hs ms)) ∧ Rd w' Af ((pBfl n ms).map bv) ∧ (∀ a, Ah = some a → w.heap.size ≤ a.block) ∧ (∀ a, Af = some a → w.heap.size ≤ a.block) := by
  obtain ⟨W, hW⟩ : ∃ W, W = w.alloc (.cells (trc 0 none 0 0 none 0 0).toArray 26) := ⟨_, rfl⟩
  obtain ⟨G, hG⟩ : ∃ G, G = w.heap.size := ⟨_, rfl⟩
  have bW : Below w.heap.size w W := by rw [hW]; exact (Below.refl _ _).alloc (Nat.le_refl _) _
  have aG : Av W G 26 (trc 0 none 0 0 none 0 0) := by rw [hW, hG]; exact Av.new _ _ _
  have hGw : w.heap.size ≤ G := by omega
  have HLv := LevelsR hs h32 A n c hnl W (hr.below bW)
  obtain ⟨q1, q2, q3, q4⟩ := lvq_levels hs n hnl hn0 hn
  have h12 := (pHt_spec n hn).1
  have hpos := pHt_pos n hn0
  have hat : ∀ h i, h ≤ pHt n → i < pWd n h → ∃ x, (mLv hs)[h]? = some x ∧ i < x.length := fun h i a b => by
    obtain ⟨x, y, h1, h2, h3⟩ := lvq_at hs n hnl hn0 hn h i a b
    exact ⟨x, h1, by rw [h3]; exact b⟩
  have h32l : ∀ l ∈ mLv hs, All32 l := fun l hl => (mLv_mem hs h32 l hl).1
  have hbh : pBhs hs ms = pHs (mLv hs) (pAll n ms) := by rw [pBhs, hnl]
  have hbf : pBfl n ms = pFlags ((pAll n ms).map PV.d) := rfl
  have hpl := pVis_length n ms (pHt n) 0
  have hp13 : 2 ^ (pHt n + 1) ≤ 2 ^ 13 := Nat.pow_le_pow_right (by omega) (by omega)
  have MV := fun nm' cm' Am' ps Al nl cl G' w0 a b c' d e f hBG => MVisit ms nm' cm' Am' n a b hn0 hn (mLv hs) ps Al nl cl G' w0 c' d e f h32l hBG (pHt n) h12 hat (pHt n) (Nat.le_refl _) 0 hpos [] []
  rw [← show pAll n ms = pVis n ms (pHt n) 0 from rfl] at hpl
  generalize hls : mLv hs = ls at *
  obtain ⟨K, hK⟩ : ∃ K, K = pHt n := ⟨_, rfl⟩
  obtain ⟨vs, hvs⟩ : ∃ vs, vs = pAll n ms := ⟨_, rfl⟩
  rw [← hvs] at hpl hbh hbf
  have hvs0 : pVis n ms (pHt n) 0 = vs := hvs.symm
  rw [hvs0] at MV
  obtain ⟨ds, hds⟩ : ∃ ds, ds = vs.map PV.d := ⟨_, rfl⟩
  rw [← hds] at hbf
  obtain ⟨nd, hnd⟩ : ∃ nd, nd = ds.length := ⟨_, rfl⟩
  have hndl : nd < 10000 := by rw [hnd, hds, List.length_map]; omega
  have t0 : ((K : Int) + 1 == 0) = false := by simp; omega
  have wK : IntKind.i64.wrap (K : Int) = (K : Int) := by rw [IntKind.wrap_i64]; omega
  have wn : IntKind.u32.wrap (n : Int) = (n : Int) := by rw [IntKind.wrap_u32]; omega
  obtain ⟨m, hm⟩ : ∃ m, m = (nd + 7) / 8 := ⟨_, rfl⟩
  have em : ((nd : Int) + 7) / 8 = (m : Int) := by omega
  have wm : IntKind.i64.wrap ((nd : Int) + 7) = (nd : Int) + 7 := by rw [IntKind.wrap_i64]; omega
  have wm2 : IntKind.i64.wrap (((nd : Int) + 7).tdiv 8) = (m : Int) := by rw [Int.tdiv_eq_ediv_of_nonneg (by omega), IntKind.wrap_i64]; omega
  have hmk := make_u8R m (by omega)
  rw [← hK] at q1 MV hp13
  have hp1 : ([] : List Bool).length + 2 ^ (K + 1) ≤ 50000 := by rw [List.length_nil]; omega
  have hp2 : ([] : List (List UInt8)).length + 2 ^ (K + 1) ≤ 50000 := by rw [List.length_nil]; omega
  replace MV := Lib.hid (fun nm' cm' Am' ps Al nl cl G' w0 a b c' d e f hBG D V w => MV nm' cm' Am' ps Al nl cl G' w0 a b c' d e f hBG D V w hp1 hp2)
  clear hp13 hp1 hp2 hpl hat hpos h12
  replace hW := Lib.hid hW
  replace hG := Lib.hid hG
  replace HLv := Lib.hid HLv
  replace hnl := Lib.hid hnl
  replace hnm := Lib.hid hnm
  replace q1 := Lib.hid q1
  replace q3 := Lib.hid q3
  replace q4 := Lib.hid q4
  replace h32l := Lib.hid h32l
  replace hbh := Lib.hid hbh
  replace hbf := Lib.hid hbf
  replace hls := Lib.hid hls
  replace hvs := Lib.hid hvs
  replace hK := Lib.hid hK
  replace hds := Lib.hid hds
  replace hnd := Lib.hid hnd
  replace hm := Lib.hid hm
  clear q2 hvs0 hr
  go_enter Tryd.func14, Tryd.ntmps14
  go_upto_region 1 with fail
  rw [← hG.out]
  rw [show w.alloc (.cells #[Value.int .u32 0, .slice none 0 0, .slice none 0 0] 26) = W from hW.out.symm]
  go_upto_region 2 with (go_at_call 29; refine (HLv.out).mono ?_; rintro e w2 ⟨v2, ps, rfl, o2, lv2, nv2, b2⟩; rw [q1.out] at o2; obtain ⟨Al, cl, rfl, hcl2, _⟩ := own_form o2)
  have aG2 := aG.below b2
  have bw2 := bW.trans (b2.mono bW.size)
  have rm2 := hrm.below bw2
  have ra2 := own_rd o2
  obtain ⟨M, hM⟩ : ∃ M, M = w2.heap.size := ⟨_, rfl⟩
  obtain ⟨w3, hw3⟩ : ∃ w3, w3 = w2.alloc (.cells (mkc n Am nm cm Al (K + 1) cl (.slice none 0 0) (.slice none 0 0)).toArray 76) := ⟨_, rfl⟩
  have b23 : Below w2.heap.size w2 w3 := by rw [hw3]; exact (Below.refl _ _).alloc (Nat.le_refl _) _
  have aM : Av w3 M 76 (mkc n Am nm cm Al (K + 1) cl (.slice none 0 0) (.slice none 0 0)) := by rw [hw3, hM]; exact Av.new _ _ _
  have MV2 := MV.out nm cm Am ps Al (K + 1) cl M w2 hnm.out hnm2 rm2 ra2 lv2 q1.out (by omega) (.slice none 0 0) (.slice none 0 0) w3 b23 aM (World.ownsRow_nil _ _ _ _) (World.ownsRow_nil _ _ _ _)
  rw [show ((0 : Nat) : Int) = 0 from rfl] at MV2
  have hbl := built_mkR n Am nm cm Al (K + 1) cl
  have hMw : w2.heap.size ≤ M := by omega
  have hGM : G ≠ M := by have := aG2.lt; omega
  have hG2 := aG2.lt
  replace MV2 := Lib.hid MV2
  replace hw3 := Lib.hid hw3
  replace hM := Lib.hid hM
  replace hbl := Lib.hid hbl
  clear MV o2 nv2 lv2 b2 HLv aG aM b23
  go_upto_region 5 with ((with_reducible refine wpList_bld (.agg (mkc n Am nm cm Al (K + 1) cl (.slice none 0 0) (.slice none 0 0)).toArray) ?_ ?_); kernel_rfl)
  rw [← hM.out, show w2.alloc (.cells (mkc n Am nm cm Al (K + 1) cl (.slice none 0 0) (.slice none 0 0)).toArray 76) = w3 from hw3.out.symm]
  go_upto_region 6 with (go_at_call 30; refine (MV2.out).mono ?_; rintro e w4 ⟨rfl, b4, D4, V4, a4, d4, v4⟩)
  rw [List.nil_append, ← hds.out, ← hnd.out] at d4
  rw [List.nil_append] at v4
  obtain ⟨Ad, cd, rfl, hcd, _⟩ := own_form d4
  obtain ⟨Av4, cv, rfl, hcv, _⟩ := own_form v4
  have rd4 := own_rd d4
  have rv4 := own_rd v4
  have hdM := own_ne d4 a4 (by decide)
  have gv : ∀ a, Av4 = some a → w2.heap.size ≤ a.block ∧ a.block < w4.heap.size := fun a e => World.ownsRow.lt v4 a.block (by rw [e]; rfl)
  have hdl : ∀ a, Ad = some a → a.block < w4.heap.size := fun a e => (World.ownsRow.lt d4 a.block (by rw [e]; rfl)).2
  have aG4 : Av w4 G 26 (trc 0 none 0 0 none 0 0) := aG2.below b4
  have bw4 := bw2.trans (b4.mono bw2.size)
  have hM4 := a4.lt
  have c3 := a4.cell 3 _ rfl
  obtain ⟨F, hF⟩ : ∃ F, F = w4.heap.size := ⟨_, rfl⟩
  obtain ⟨w5, hw5⟩ : ∃ w5, w5 = w4.alloc (.cells (Array.replicate m (bv 0)) 5) := ⟨_, rfl⟩
  have b45 : Below w4.heap.size w4 w5 := by rw [hw5]; exact (Below.refl _ _).alloc (Nat.le_refl _) _
  have aF : Av w5 F 5 ((flF ds m 0).map bv) := by rw [hw5, hF, flF_zero, show Array.replicate m (bv 0) = ((List.replicate m (0 : UInt8)).map bv).toArray by simp]; exact Av.new _ _ _
  have aG5 := aG4.below b45
  have a5 := a4.below b45
  have rd5 := rd4.below b45
  have rv5 := rv4.below b45
  have bw5 := bw4.trans (b45.mono bw4.size)
  have hFG : G ≠ F := by omega
  have hFM : M ≠ F := by omega
  have hFw : w.heap.size ≤ F := by rw [hF]; exact bw4.size
  have hFd : ∀ a, Ad = some a → a.block ≠ F := fun a e => by have := hdl a e; omega
  have hFv : ∀ a, Av4 = some a → a.block ≠ F := fun a e => by have := gv a e; omega
  have hvG : ∀ a, Av4 = some a → a.block ≠ G := fun a e => by have := gv a e; omega
  have hvw : ∀ a, Av4 = some a → w.heap.size ≤ a.block := fun a e => Nat.le_trans bw2.size (gv a e).1
  replace hF := Lib.hid hF
  replace hw5 := Lib.hid hw5
  replace hFd := Lib.hid hFd
  replace hFv := Lib.hid hFv
  replace hvG := Lib.hid hvG
  replace hvw := Lib.hid hvw
  clear MV2 d4 v4 hdM gv hdl
  have hkd : ∀ j, j < nd → ∃ dg, ds[j]? = some dg := fun j hj => ⟨_, List.getElem?_eq_getElem (by rw [← hnd.out]; exact hj)⟩
  have hst := fun j dg h => flF_step ds j dg h
  have hfll := fun j h => flF_length ds j h
  have hfa := flF_all ds
  rw [← hnd.out, ← hm.out] at hfa
  simp only [← hnd.out] at hst hfll
  simp only [← hm.out] at hst hfll
  replace hkd := Lib.hid hkd
  replace hst := Lib.hid hst
  replace hfll := Lib.hid hfll
  replace hfa := Lib.hid hfa
  go_upto_region 7 with fail
  rw [← hF.out, show w4.alloc (.cells (Array.replicate m (bv 0)) 5) = w5 from hw5.out.symm]
  clear hmk c3 b45 a4 rd4 rv4 aG4 bw4
  go_wp2
  go_loopw [9] (fun k wr => ∃ j : Nat, k = .int .i64 (j : Int) ∧ j ≤ nd ∧ Below w.heap.size w wr ∧ Av wr G 26 (trc 0 none 0 0 none 0 0) ∧ Av wr M 76 (mkc n Am nm cm Al (K + 1) cl (.slice Ad nd cd) (.slice Av4 (pHs ls vs).length cv)) ∧ Rd wr Ad (ds.map Value.bool) ∧ Rd wr Av4 (hcl (pHs ls vs)) ∧ Av wr F 5 ((flF ds m j).map bv)) (fun k _ => nd - (intOf k).toNat)
  case atStart => exact ⟨0, rfl, Nat.zero_le _, bw5, aG5, a5, rd5, rv5, aF⟩
  case round =>
    clear bw5 aG5 a5 rd5 rv5 aF
    obtain ⟨j, rfl, hjn, bw, aG, aM, rd, rv, aF⟩ := hrel
    have c3 := aM.cell 3 _ rfl
    by_cases hj : j < nd
    · obtain ⟨dg, hdg⟩ := hkd.out j hj
      have tj : decide ((j : Int) < (nd : Int)) = true := by simp; omega
      have wj : IntKind.i64.wrap ((j : Int) + 1) = (j : Int) + 1 := by rw [IntKind.wrap_i64]; omega
      obtain ⟨ba, oa, e⟩ := rd.someA (by intro e; have := congrArg List.length e; rw [List.length_map, ← hnd.out] at this; simp at this; omega)
      subst e
      have cd1 : wr.cell? ⟨ba, oa + j, none⟩ = some (.bool dg) := by
        rcases rd with h | ⟨b', o', hA', hc⟩
        · exact absurd h (by intro e; have := congrArg List.length e; rw [List.length_map, ← hnd.out] at this; simp at this; omega)
        · cases hA'
          exact hc _ _ (by rw [List.getElem?_map, hdg]; rfl)
      have hj1 : (j : Int) < (nd : Int) := by omega
      have hj0 : (0 : Int) ≤ (j : Int) := by omega
      have hstj := hst.out j dg hdg
      cases dg with
      | false =>
        rw [if_neg (by simp)] at hstj
        replace hdg := Lib.hid hdg
        replace hstj := Lib.hid hstj
        go_wp2
        go_roundw
        case rel => exact ⟨j + 1, by go_num, by omega, bw, aG, aM, rd, rv, by rw [hstj.out]; exact aF⟩
        case measure =>
          simp [intOf]
          omega
      | true =>
        rw [if_pos rfl] at hstj
        obtain ⟨q, hq⟩ : ∃ q, q = j / 8 := ⟨_, rfl⟩
        obtain ⟨sf, hsf⟩ : ∃ sf, sf = j % 8 := ⟨_, rfl⟩
        have e1 : (j : Int) / 8 = (q : Int) := by omega
        have e2 : (j : Int) % 8 = (sf : Int) := by omega
        have sf8 : sf < 8 := by omega
        have hqm : q < m := by have := hm.out; omega
        rw [← hq, ← hsf] at hstj
        obtain ⟨x, hx⟩ : ∃ x, x = (flF ds m j).getD q 0 := ⟨_, rfl⟩
        have hlj := hfll.out j hjn
        have hgx : ((flF ds m j).map bv)[q]? = some (bv x) := by
          rw [List.getElem?_map, hx, List.getD_eq_getElem?_getD, List.getElem?_eq_getElem (by omega)]
          rfl
        have cq : wr.cell? ⟨F, q, none⟩ = some (.int .u8 (x.toNat : Int)) := aF.cell q _ hgx
        have obit := or_bit x sf sf8
        have obit2 := obit
        rw [IntKind.wrap_u8] at obit2
        rw [← hx] at hstj
        have fq := frozen_of_row _ _ q _ _ aF
        have aF2 := aF.set q (bv (orBit x sf))
        have hset : ((flF ds m j).map bv).set q (bv (orBit x sf)) = (flF ds m (j + 1)).map bv := by rw [hstj, List.map_set]
        rw [hset] at aF2
        have f1 := Fr.setCell wr ⟨F, q, none⟩ (bv (orBit x sf))
        have q0 : (0 : Int) ≤ (q : Int) := by omega
        have qm1 : (q : Int) < (m : Int) := by omega
        have s0 : (0 : Int) ≤ (sf : Int) := by omega
        replace aF2 := Lib.hid aF2
        replace f1 := Lib.hid f1
        replace hdg := Lib.hid hdg
        replace hstj := Lib.hid hstj
        replace hset := Lib.hid hset
        replace hgx := Lib.hid hgx
        replace hx := Lib.hid hx
        replace hq := Lib.hid hq
        replace hsf := Lib.hid hsf
        go_wp2
        go_roundw
        case rel => exact ⟨j + 1, by go_num, by omega, bw.trans (f1.out.below (fun k hk => by rw [hk]; exact hFw) bw.size), f1.out.av aG hFG, f1.out.av aM hFM, f1.out.rd rd hFd.out, f1.out.rd rv hFv.out, aF2.out⟩
        case measure =>
          simp [intOf]
          omega
    · obtain rfl : j = nd := by omega
      have tj : decide ((j : Int) < (j : Int)) = false := by simp
      have c4 := aM.cell 4 _ rfl
      have aF' : Av wr F 5 ((pFlags ds).map bv) := by rw [← hfa.out]; exact aF
      have hfm : (pFlags ds).length = m := by rw [← hfa.out]; exact hfll.out j (Nat.le_refl _)
      have hone : [Value.int .u32 (n : Int), .slice Av4 (pHs ls vs).length cv, .slice (some ⟨F, 0, none⟩) m m].all (·.oneCell') = true := rfl
      have hbl2 : Tryd.prog.built 26 [(0, .int .u32 (n : Int)), (1, .slice Av4 (pHs ls vs).length cv), (2, .slice (some ⟨F, 0, none⟩) m m)] = some (trc n Av4 (pHs ls vs).length cv (some ⟨F, 0, none⟩) m m).toArray := by kernel_rfl
      replace hone := Lib.hid hone
      replace hbl2 := Lib.hid hbl2
      clear aF
      go_wp2_with (first
        | ((with_reducible refine wpList_bld (.agg (trc n Av4 (pHs ls vs).length cv (some ⟨F, 0, none⟩) m m).toArray) ?_ ?_); kernel_rfl)
        | ((with_reducible refine wpList_storeFA 26 bw aG hGw (trc n Av4 (pHs ls vs).length cv (some ⟨F, 0, none⟩) m m) ?_ ?_ 3 rfl ?_ ?_ ?_ ?_); rfl; rfl; kernel_rfl; rfl; exact hone.out; intro w9 a9 b9 k9 z9))
      refine bodyPost_ret (v := .tuple #[.agg (trc n Av4 (pHs ls vs).length cv (some ⟨F, 0, none⟩) m m).toArray, .bool true]) ((results_cellU (C := trc n Av4 (pHs ls vs).length cv (some ⟨F, 0, none⟩) m m) (by rfl) (by rfl) a9 _ Tryd.underlying26 rfl 3 rfl (by kernel_rfl)).trans (by rfl)) (by rfl) ?_
      rw [hbh.out, hbf.out, hfm]
      exact ⟨b9, Av4, cv, some ⟨F, 0, none⟩, m, rfl, hcv, Nat.le_refl _, rv.setO (fun a ha => k9 a.block (hvG.out a ha)), (aF'.same (k9 F (Ne.symm hFG))).rd, hvw.out, fun a e => by cases e; exact hFw⟩
end Go.Proofs.YtmdllemgjhkphaaDoor
