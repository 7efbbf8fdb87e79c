/- proof.found. -/
import Derived.Test.YtdkknincamkhpaaDoorPr12
namespace Go.Proofs.YtdkknincamkhpaaDoor
open Go.RowKit
attribute [local go_sem high] slB_lh slB_l slB_h
theorem results_ccu {fn : Func} {p q u : Tmp} {ty : TypeId} (h : fn.results = #[.cell p ty, .cell q ty, .tmp u]) (tmps : Array Value) (P : Program) (w : World) :
    (results fn tmps).run P w = ((asAddr (tmps.getD p undef)).run P w).andThen fun a w₁ => ((loadVar ty a).run P w₁).andThen fun x w₂ => ((asAddr (tmps.getD q undef)).run P w₂).andThen fun b w₃ => ((loadVar ty b).run P w₃).andThen fun y w₄ => .ok (.tuple #[x, y, tmps.getD u undef]) w₄ := by
  simp only [results, h]
  simp [Sem.run_bind, Result.andThen]
theorem results_ccAv {fn : Func} {p q u : Tmp} {ty : TypeId} (h : fn.results = #[.cell p ty, .cell q ty, .tmp u]) {tmps : Array Value} {P : Program} {w : World} {g g' : Nat} {t t' : TypeId} {C C' : List Value} (hp : tmps.getD p undef = .pointer (some ⟨g, 0, none⟩)) (hq : tmps.getD q undef = .pointer (some ⟨g', 0, none⟩)) (ha : Av w g t C) (ha' : Av w g' t' C') (d : TypeDesc) (hu : P.underlying ty = some d) (hd : d.isRow = true)
    (n : Nat) (hn : C.length = n) (hn' : C'.length = n) (hi : (P.info? ty).map (·.size) = some n) :
    (results fn tmps).run P w = .ok (.tuple #[.agg C.toArray, .agg C'.toArray, tmps.getD u undef]) w := by
  rw [results_ccu h, hp, hq]
  simp only [asAddr, Sem.run_pure, Result.andThen_ok, run_loadVar_row w g t ty _ _ d ha hu (by cases d <;> first | rfl | (simp [TypeDesc.isRow] at hd)) (by rw [List.size_toArray, hn]; exact hi), run_loadVar_row w g' t' ty _ _ d ha' hu (by cases d <;> first | rfl | (simp [TypeDesc.isRow] at hd)) (by rw [List.size_toArray, hn']; exact hi)]
/-- what found answers -/
def FndPost (w0 : World) (ans : Option (List UInt8 × List UInt8)) (e : Ending) (w' : World) : Prop :=
  Below w0.heap.size w0 w' ∧ match ans with
  | none => e = .returned (.tuple #[.agg (hcs zs32), .agg (hcs zs32), .bool false])
  | some r => e = .returned (.tuple #[.agg (hcs r.1), .agg (hcs r.2), .bool true])
set_option maxRecDepth 100000 in
set_option maxHeartbeats 8000000 in
theorem PFound_none (fl : List UInt8) (hs : List (List UInt8)) (h32 : All32 hs) (tot : Nat) (Ah : Option Addr) (nh ch : Nat) (Af : Option Addr) (nf cf : Nat) (hnh : hs.length = nh) (hnf : fl.length = nf) (ht : tot < 4294967296) (hnf2 : nf ≤ 10000) (hnh2 : nh ≤ 10000) (pos : Int) (w : World)
    (hrh : Rd w Ah (hcl hs)) (hrf : Rd w Af (fl.map bv)) (hT : Tabs w) (hx : pExt tot hs fl = none) :
    Calls Tryd.prog 31 #[.agg (trc tot Ah nh ch Af nf cf).toArray, .int .i64 pos] w (FndPost w none) := by
  have HE := fun w' r r2 t => PExt fl hs h32 tot Ah nh ch Af nf cf hnh hnf ht hnf2 hnh2 w' r r2 t
  rw [hx] at HE
  unfold ExtPost at HE
  dsimp only at HE
  have hz := zeros_32
  rw [show List.replicate 32 (0 : UInt8) = zs32 from rfl] at hz
  obtain ⟨T, hT1⟩ : ∃ T, T = w.heap.size := ⟨_, rfl⟩
  obtain ⟨W, hW⟩ : ∃ W, W = ((w.alloc (.cells (trc tot Ah nh ch Af nf cf).toArray 33)).alloc (.cells (zs32.map bv).toArray 28)).alloc (.cells (zs32.map bv).toArray 28) := ⟨_, rfl⟩
  have bW : Below w.heap.size w W := by rw [hW]; exact (((Below.refl _ _).alloc (Nat.le_refl _) _).alloc (by simp) _).alloc (by simp; omega) _
  have aT : Av W T 33 (trc tot Ah nh ch Af nf cf) := by rw [hW, hT1]; exact (Av.newer w (trc tot Ah nh ch Af nf cf) _ _).below ((Below.refl _ _).alloc (Nat.le_refl _) _)
  have aG : Av W (T + 1) 28 (zs32.map bv) := by rw [hW, hT1, ← World.size_alloc w (.cells (trc tot Ah nh ch Af nf cf).toArray 33)]; exact Av.newer _ _ _ _
  have aH : Av W (T + 2) 28 (zs32.map bv) := by rw [hW, hT1, show w.heap.size + 2 = ((w.alloc (.cells (trc tot Ah nh ch Af nf cf).toArray 33)).alloc (.cells (zs32.map bv).toArray 28)).heap.size by simp]; exact Av.new _ _ _
  have hzone : (zs32.map bv).all (·.oneCell') = true := rfl
  have g1 : w.heap.size ≤ T + 1 := by omega
  have g2 : w.heap.size ≤ T + 2 := by omega
  have g12 : T + 1 ≠ T + 2 := by omega
  have HE2 := HE W (hrh.below bW) (hrf.below bW) (hT.below bW)
  replace hW := Lib.hid hW
  replace hT1 := Lib.hid hT1
  replace hzone := Lib.hid hzone
  replace HE2 := Lib.hid HE2
  clear HE
  go_enter Tryd.func31, Tryd.ntmps31
  go_upto_region 1 with fail
  rw [← hT1.out]
  rw [← hW.out]
  go_upto_region 3 with (first
    | ((with_reducible refine wpList_loadF 33 aT ?_ _ 3 ?_ Tryd.underlying33 ?_ ?_ ?_); rfl; rfl; rfl; kernel_rfl)
    | (go_at_call 22; refine (HE2.out).mono ?_; rintro e w1 ⟨b1, rfl⟩)
    | ((with_reducible refine wpList_storeFA 28 (bW.trans (b1.mono bW.size)) (aG.below b1) g1 (zs32.map bv) ?_ ?_ 32 rfl ?_ ?_ ?_ ?_); rfl; rfl; kernel_rfl; rfl; exact hzone.out; intro w2 a2 b2 k2 z2))
  have aH2 := (aH.below b1).same (k2 _ (Ne.symm g12))
  clear k2 z2
  go_wp2_with (first
    | ((with_reducible refine wpList_bld (.agg (zs32.map bv).toArray) ?_ ?_); kernel_rfl)
    | ((with_reducible refine wpList_storeFA 28 b2 a2 g1 (zs32.map bv) ?_ ?_ 32 rfl ?_ ?_ ?_ ?_); rfl; rfl; kernel_rfl; rfl; exact hzone.out; intro w3 a3 b3 k3 z3)
    | ((with_reducible refine wpList_storeFA 28 b3 (aH2.same (k3 _ (Ne.symm g12))) g2 (zs32.map bv) ?_ ?_ 32 rfl ?_ ?_ ?_ ?_); rfl; rfl; kernel_rfl; rfl; exact hzone.out; intro w4 a4 b4 k4 z4))
  refine bodyPost_ret (v := .tuple #[.agg (hcs zs32), .agg (hcs zs32), .bool false]) ((results_ccAv (C := zs32.map bv) (C' := zs32.map bv) (by rfl) (by rfl) (by rfl) (a3.same (k4 _ g12)) a4 _ Tryd.underlying28 rfl 32 rfl rfl (by kernel_rfl)).trans (by rfl)) (by rfl) ?_
  exact ⟨b4, rfl⟩
theorem mlc_ne0 {l : List (Nat × List UInt8)} (h : 0 < l.length) : mlc l ≠ [] := by
  cases l with
  | nil => simp at h
  | cons p l => simp [mlc, mtc]
set_option maxRecDepth 100000 in
set_option maxHeartbeats 8000000 in
theorem PFound_some (fl : List UInt8) (hs : List (List UInt8)) (h32 : All32 hs) (tot : Nat) (Ah : Option Addr) (nh ch : Nat) (Af : Option Addr) (nf cf : Nat) (hnh : hs.length = nh) (hnf : fl.length = nf) (ht : tot < 4294967296) (hnf2 : nf ≤ 10000) (hnh2 : nh ≤ 10000) (pos : Int) (w : World)
    (hrh : Rd w Ah (hcl hs)) (hrf : Rd w Af (fl.map bv)) (hT : Tabs w) (r : PRes) (hx : pExt tot hs fl = some r) :
    Calls Tryd.prog 31 #[.agg (trc tot Ah nh ch Af nf cf).toArray, .int .i64 pos] w (FndPost w ((qFind r.l pos).map fun y => (r.x, y))) := by
  have HE := fun w' r r2 t => PExt fl hs h32 tot Ah nh ch Af nf cf hnh hnf ht hnf2 hnh2 w' r r2 t
  rw [hx] at HE
  unfold ExtPost at HE
  dsimp only at HE
  have hbd := pRd_bounds tot fl hs h32 _ _ _ _ _ (qExt_facts hx).2.2.1
  have hpl := (pRd_places tot fl hs _ _ _ _ r (qExt_facts hx).2.2.2 (qExt_facts hx).2.2.1).1
  have htb := (qExt_facts hx).2.1
  obtain ⟨rx, L, rd, rk⟩ := r
  dsimp only at HE hbd hpl ⊢
  have hx32 : rx.length = 32 := hbd.2.2.2.2.2.1
  have hL32 : ∀ p ∈ L, p.2.length = 32 := hbd.2.2.2.2.2.2
  have hLn : L.length ≤ 10000 := by have := hbd.2.2.2.1; have := hbd.2.2.2.2.1; omega
  have hLp : ∀ p ∈ L, p.1 < 4096 := fun p hp => by have := (hpl p hp).2.2; omega
  clear hbd hpl htb hx
  obtain ⟨ans, hans⟩ : ∃ ans, ans = qFind L pos := ⟨_, rfl⟩
  rw [← hans]
  obtain ⟨n, hn⟩ : ∃ n, n = L.length := ⟨_, rfl⟩
  rw [← hn] at HE hLn
  have xv32 : (rx.map bv).length = 32 := by rw [List.length_map, hx32]
  have xone : (rx.map bv).all (·.oneCell') = true := List.all_eq_true.2 (bv_one rx)
  have hz := zeros_32
  rw [show List.replicate 32 (0 : UInt8) = zs32 from rfl] at hz
  obtain ⟨T, hT1⟩ : ∃ T, T = w.heap.size := ⟨_, rfl⟩
  obtain ⟨W, hW⟩ : ∃ W, W = ((w.alloc (.cells (trc tot Ah nh ch Af nf cf).toArray 33)).alloc (.cells (zs32.map bv).toArray 28)).alloc (.cells (zs32.map bv).toArray 28) := ⟨_, rfl⟩
  have bW : Below w.heap.size w W := by rw [hW]; exact (((Below.refl _ _).alloc (Nat.le_refl _) _).alloc (by simp) _).alloc (by simp; omega) _
  have aT : Av W T 33 (trc tot Ah nh ch Af nf cf) := by rw [hW, hT1]; exact (Av.newer w (trc tot Ah nh ch Af nf cf) _ _).below ((Below.refl _ _).alloc (Nat.le_refl _) _)
  have aG : Av W (T + 1) 28 (zs32.map bv) := by rw [hW, hT1, ← World.size_alloc w (.cells (trc tot Ah nh ch Af nf cf).toArray 33)]; exact Av.newer _ _ _ _
  have aH : Av W (T + 2) 28 (zs32.map bv) := by rw [hW, hT1, show w.heap.size + 2 = ((w.alloc (.cells (trc tot Ah nh ch Af nf cf).toArray 33)).alloc (.cells (zs32.map bv).toArray 28)).heap.size by simp]; exact Av.new _ _ _
  have hzone : (zs32.map bv).all (·.oneCell') = true := rfl
  have g1 : w.heap.size ≤ T + 1 := by omega
  have g2 : w.heap.size ≤ T + 2 := by omega
  have g12 : T + 1 ≠ T + 2 := by omega
  have HE2 := HE W (hrh.below bW) (hrf.below bW) (hT.below bW)
  replace hW := Lib.hid hW
  replace hT1 := Lib.hid hT1
  replace hzone := Lib.hid hzone
  replace HE2 := Lib.hid HE2
  replace hn := Lib.hid hn
  replace hans := Lib.hid hans
  replace hx32 := Lib.hid hx32
  replace hL32 := Lib.hid hL32
  replace hLp := Lib.hid hLp
  replace xv32 := Lib.hid xv32
  replace xone := Lib.hid xone
  clear HE
  go_enter Tryd.func31, Tryd.ntmps31
  go_upto_region 1 with fail
  rw [← hT1.out]
  rw [← hW.out]
  go_upto_region 4 with (first
    | ((with_reducible refine wpList_loadF 33 aT ?_ _ 3 ?_ Tryd.underlying33 ?_ ?_ ?_); rfl; rfl; rfl; kernel_rfl)
    | (go_at_call 22; refine (HE2.out).mono ?_; rintro e w1 ⟨b1, A, c, rfl, hc, gA, rl1⟩)
    | ((with_reducible refine wpList_storeFA 28 (Below.refl w.heap.size w1) (aG.below b1) g1 (rx.map bv) ?_ ?_ 32 xv32.out ?_ ?_ ?_ ?_); rfl; rfl; kernel_rfl; rfl; exact xone.out; intro w2 a2 b2 k2 z2))
  have aH2 := (aH.below b1).same (k2 _ (Ne.symm g12))
  have hAne : ∀ a, A = some a → a.block ≠ T + 1 := fun a e => by have := gA a e; have := aH.lt; omega
  have rl2 : Rd w2 A (mlc L) := (Fr.ofStore b2 k2 z2).rd rl1 hAne
  have bw2 : Below w.heap.size w w2 := (bW.trans (b1.mono bW.size)).trans b2
  clear k2 z2 rl1 gA b2
  replace hAne := Lib.hid hAne
  have hdr0 : qFind (L.drop 0) pos = ans := by rw [List.drop_zero]; exact hans.out.symm
  replace hdr0 := Lib.hid hdr0
  go_wp2
  go_loopw [23] (fun i wr => ∃ j : Nat, j ≤ n ∧ i = .int .i64 (j : Int) ∧ Hid (qFind (L.drop j) pos = ans) ∧ Below w2.heap.size w2 wr) (fun i _ => n - (intOf i).toNat)
  case atStart => exact ⟨0, by omega, rfl, hdr0, Below.refl _ _⟩
  case round =>
    obtain ⟨j, hj, rfl, hd, bw⟩ := hrel
    have bwr := bw2.trans (bw.mono bw2.size)
    have aGr := a2.below bw
    have aHr := aH2.below bw
    by_cases hlt : j < n
    · have u1 : decide ((j : Int) < (n : Int)) = true := by simp; omega
      have m1 : (j : Int) < (n : Int) := by omega
      obtain ⟨bX, oX, rfl⟩ := rl2.someA (mlc_ne0 (by rw [← hn.out]; omega))
      have hjl : j < L.length := by rw [← hn.out]; exact hlt
      obtain ⟨p, hp⟩ : ∃ p, L[j]? = some p := ⟨_, List.getElem?_eq_getElem hjl⟩
      have hpm := List.mem_of_getElem? hp
      have p32 := hL32.out p hpm
      have plt := hLp.out p hpm
      have hpv : ((p.2).map bv).length = 32 := by rw [List.length_map, p32]
      have hpone : ((p.2).map bv).all (·.oneCell') = true := List.all_eq_true.2 (bv_one p.2)
      have hmone : (mtc p).all (·.oneCell') = true := List.all_eq_true.2 (mtc_one p)
      have hml := mtc_len p32
      have hrg : wr.rangeAt bX (oX + j * 33) (mtc p) := Rd.piece mtc 33 L (fun e he => mtc_len (hL32.out e he)) (rl2.below bw) j p hp
      have hd2 : qFind (L.drop j) pos = if (p.1 : Int) = pos then some p.2 else qFind (L.drop (j + 1)) pos := by
        rw [List.drop_eq_getElem_cons hjl, qFind_cons, show L[j] = p by rw [List.getElem?_eq_getElem hjl] at hp; exact Option.some.inj hp]
      rw [hd.out] at hd2
      replace hd2 := Lib.hid hd2
      replace hp := Lib.hid hp
      replace hpv := Lib.hid hpv
      replace hpone := Lib.hid hpone
      replace hmone := Lib.hid hmone
      replace hml := Lib.hid hml
      clear hd hpm p32 hjl
      go_upto_region 7 with (first
        | (refine wpList_load_mid rfl _ _ rfl bX (oX + j * 33) rfl (mtc p) _ hrg Tryd.underlying51 rfl (by rw [hml.out]; kernel_rfl) ?_)
        | ((with_reducible refine wpList_storeF 51 ((Below.refl wr.heap.size wr).alloc (Nat.le_refl _) _) (heap_alloc_new _ _) (Nat.le_refl _) (mtc p) ?_ ?_ 33 hml.out ?_ ?_ ?_ ?_); rfl; rfl; kernel_rfl; rfl; exact hmone.out; intro w5 a5 b5 k5 z5; clear k5; replace z5 := Lib.hid z5))
      have aG5 := aGr.below b5
      have aH5 := aHr.below b5
      have bw5 := bwr.trans (b5.mono bwr.size)
      have c0 : w5.cell? ⟨wr.heap.size, 0, none⟩ = some (.int .i64 (p.1 : Int)) := a5.cell 0 _ rfl
      by_cases he : (p.1 : Int) = pos
      · have u2 : ((p.1 : Int) == pos) = true := by simp [he]
        have hans2 : ans = some p.2 := by rw [hd2.out, if_pos he]
        have hXne : wr.heap.size ≠ T + 1 := by have := aGr.lt; omega
        have hrg2 : ∀ w', RS (T + 1) 28 (rx.map bv) w5.drew w' → w'.rangeAt wr.heap.size 1 (p.2.map bv) := fun w' h q u hq => by rw [Nat.add_comm 1 q]; exact (h.1.av a5.drew hXne).cell (q + 1) u (by rw [mtc, List.singleton_append, List.getElem?_cons_succ]; exact hq)
        have aG6 := aG5.drew
        have aH6 := aH5.drew
        replace hans2 := Lib.hid hans2
        replace hd2 := Lib.hid hd2
        replace hrg2 := Lib.hid hrg2
        go_wp2
        refine wp_region_relG 4 [] [(3, fun w' => Av w' (T + 1) 28 (rx.map bv))] (RS (T + 1) 28 (rx.map bv)) (by kernel_rfl) (by kernel_rfl) (by kernel_rfl) (by kernel_rfl) (by kernel_rfl) (by kernel_rfl) (fun w => RS.refl w) RS.trans (by intro p hp; cases hp) (by
          intro p hp w w' hR h
          simp only [List.mem_singleton] at hp
          subst hp
          exact hR.2.1 h) ?_
        refine gel (fun w => RS.refl w) rfl (relPure (fun w => RS.refl w) rfl rfl rfl rfl (c := .agg (hcs rx)) (fun w hw => exec_loadAv (hw.2.1 aG6) _ _ rfl rfl _ 32 xv32.out Tryd.underlying28 rfl (by kernel_rfl)) (by simp only [List.set_cons_succ, List.set_cons_zero]; rfl) (gend ?_))
        refine gel (fun w => RS.refl w) rfl (relPure (fun w => RS.refl w) rfl rfl rfl rfl (fun w _ => by go_simp; first | done | rfl) (by simp only [List.set_cons_succ, List.set_cons_zero]; rfl) (gend ?_))
        refine gel (fun w => RS.refl w) rfl (relPure (fun w => RS.refl w) rfl rfl rfl rfl (c := .agg (hcs p.2)) (fun w hw => exec_load_mid _ _ rfl wr.heap.size 1 rfl (p.2.map bv) _ (hrg2.out w hw) Tryd.underlying28 rfl (by rw [hpv.out]; kernel_rfl)) (by simp only [List.set_cons_succ, List.set_cons_zero]; rfl) (gend ?_))
        refine gStore rfl rfl (fun w hw => exec_storeAv (C := rx.map bv) aG6 rfl hw _ _ _ rfl rfl rfl 32 xv32.out (by kernel_rfl) xone.out 3) ?_
        refine relEndG fun w6 hw6 hg => ?_
        simp only [List.drop_succ_cons, List.drop_zero]
        have a6 := hg (3, fun w' => Av w' (T + 1) 28 (rx.map bv)) (List.mem_singleton.2 rfl)
        have f6 := Fr.ofDrew hw6.1
        have aH7 := f6.av aH5 (Ne.symm g12)
        have bw6 := bw5.trans (f6.below (fun k hk => by rw [hk]; exact g1) bw5.size)
        go_wp2_with ((with_reducible refine wpList_storeFA 28 (Below.refl w.heap.size w6) aH7 g2 (p.2.map bv) ?_ ?_ 32 hpv.out ?_ ?_ ?_ ?_); rfl; rfl; kernel_rfl; rfl; exact hpone.out; intro w7 a7 b7 k7 z7)
        refine bodyPost_ret (v := .tuple #[.agg (hcs rx), .agg (hcs p.2), .bool true]) ((results_ccAv (C := rx.map bv) (C' := p.2.map bv) (by rfl) (by rfl) (by rfl) (a6.same (k7 _ g12)) a7 _ Tryd.underlying28 rfl 32 xv32.out hpv.out (by kernel_rfl)).trans (by rfl)) (by rfl) ?_
        rw [hans2.out]
        exact ⟨bw6.trans b7, rfl⟩
      · have u2 : ((p.1 : Int) == pos) = false := by simp [he]
        have hd3 : qFind (L.drop (j + 1)) pos = ans := by rw [hd2.out, if_neg he]
        replace hd3 := Lib.hid hd3
        replace hd2 := Lib.hid hd2
        go_wp2
        go_roundw
        case rel => exact ⟨j + 1, by omega, by go_num, hd3, bw.trans (b5.mono bw.size)⟩
        case measure =>
          simp [intOf]
          omega
    · obtain rfl : j = n := by omega
      have u1 : decide ((j : Int) < (j : Int)) = false := by simp
      have hans2 : ans = none := by
        rw [← hd.out, List.drop_of_length_le (by rw [← hn.out]; exact Nat.le_refl _)]
        rfl
      replace hans2 := Lib.hid hans2
      clear hd
      go_wp2_with (first
        | ((with_reducible refine wpList_bld (.agg (zs32.map bv).toArray) ?_ ?_); kernel_rfl)
        | ((with_reducible refine wpList_storeFA 28 (Below.refl w.heap.size wr) aGr g1 (zs32.map bv) ?_ ?_ 32 rfl ?_ ?_ ?_ ?_); rfl; rfl; kernel_rfl; exact xv32.out; exact hzone.out; intro w3 a3 b3 k3 z3)
        | ((with_reducible refine wpList_storeFA 28 b3 (aHr.same (k3 _ (Ne.symm g12))) g2 (zs32.map bv) ?_ ?_ 32 rfl ?_ ?_ ?_ ?_); rfl; rfl; kernel_rfl; rfl; exact hzone.out; intro w4 a4 b4 k4 z4))
      refine bodyPost_ret (v := .tuple #[.agg (hcs zs32), .agg (hcs zs32), .bool false]) ((results_ccAv (C := zs32.map bv) (C' := zs32.map bv) (by rfl) (by rfl) (by rfl) (a3.same (k4 _ g12)) a4 _ Tryd.underlying28 rfl 32 rfl rfl (by kernel_rfl)).trans (by rfl)) (by rfl) ?_
      rw [hans2.out]
      exact ⟨bwr.trans b4, rfl⟩
theorem PFound (fl : List UInt8) (hs : List (List UInt8)) (h32 : All32 hs) (tot : Nat) (Ah : Option Addr) (nh ch : Nat) (Af : Option Addr) (nf cf : Nat) (hnh : hs.length = nh) (hnf : fl.length = nf) (ht : tot < 4294967296) (hnf2 : nf ≤ 10000) (hnh2 : nh ≤ 10000) (pos : Int) (w : World)
    (hrh : Rd w Ah (hcl hs)) (hrf : Rd w Af (fl.map bv)) (hT : Tabs w) :
    Calls Tryd.prog 31 #[.agg (trc tot Ah nh ch Af nf cf).toArray, .int .i64 pos] w (FndPost w (qFnd tot hs fl pos)) := by
  unfold qFnd
  cases hx : pExt tot hs fl with
  | none => exact PFound_none fl hs h32 tot Ah nh ch Af nf cf hnh hnf ht hnf2 hnh2 pos w hrh hrf hT hx
  | some r => exact PFound_some fl hs h32 tot Ah nh ch Af nf cf hnh hnf ht hnf2 hnh2 pos w hrh hrf hT r hx
end Go.Proofs.YtdkknincamkhpaaDoor
