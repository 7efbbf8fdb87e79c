/- U4; Qv: put together for the claim. -/
import Derived.Test.YtdkknincamkhpaaDoorRw
import Derived.Test.YtdkknincamkhpaaDoorQg
import Derived.Test.YtdkknincamkhpaaDoorRf
import Derived.Test.YtdkknincamkhpaaDoorPr14
/- florinref12.find. -/
namespace Go.Proofs.YtdkknincamkhpaaDoor
open Go.RowKit
attribute [local go_sem high] slB_lh slB_l slB_h
/-- the root that is told, even where nothing is found -/
def qRt (ans : Option PRes) : List UInt8 := match ans with
  | none => zs32
  | some r => r.x
/-- what find answers -/
def FindPost (w0 : World) (rt : List UInt8) (ans : Option (List UInt8 × List UInt8)) (e : Ending) (w' : World) : Prop :=
  Below w0.heap.size w0 w' ∧ match ans with
  | none => e = .returned (.tuple #[.agg (hcs rt), .agg (hcs zs32), .bool false])
  | some r => e = .returned (.tuple #[.agg (hcs r.1), .agg (hcs r.2), .bool true])
/-- what is extracted, in one form -/
theorem ext_form {ans : Option PRes} {w0 : World} (hb : ∀ r, ans = some r → r.x.length = 32 ∧ r.l.length ≤ 10000 ∧ (∀ p ∈ r.l, p.2.length = 32) ∧ ∀ p ∈ r.l, p.1 < 4096) :
    ∃ (x : List UInt8) (l : List (Nat × List UInt8)) (z : Int), x = qRt ans ∧ x.length = 32 ∧ l.length ≤ 10000 ∧ (∀ p ∈ l, p.2.length = 32) ∧ (∀ p ∈ l, p.1 < 4096) ∧ (z = 0 ∨ l = []) ∧ (∀ pos, (ans.bind fun r => (qFind r.l pos).map fun y => (r.x, y)) = (qFind l pos).map fun y => (x, y)) ∧ ∀ e w', ExtPost w0 ans e w' → Below w0.heap.size w0 w' ∧ ∃ B c, e = .returned (.tuple #[.agg (hcs x), .slice B l.length c, .int .i64 z]) ∧ (∀ a, B = some a → w0.heap.size ≤ a.block) ∧ Rd w' B (mlc l) := by
  cases ans with
  | none => exact ⟨zs32, [], 13, rfl, rfl, by simp, (fun p hp => by cases hp), (fun p hp => by cases hp), .inr rfl, fun _ => rfl, fun e w' h => ⟨h.1, none, 0, h.2, (fun a ha => by cases ha), Rd.nil _ _⟩⟩
  | some r =>
    obtain ⟨h1, h2, h3, h4⟩ := hb r rfl
    refine ⟨r.x, r.l, 0, rfl, h1, h2, h3, h4, .inl rfl, fun _ => rfl, fun e w' h => ?_⟩
    obtain ⟨b, B, c, e1, _, g, r1⟩ := h
    exact ⟨b, B, c, e1, g, r1⟩
set_option maxRecDepth 100000 in
set_option maxHeartbeats 8000000 in
theorem FindR (fl : List UInt8) (hs : List (List UInt8)) (h32 : All32 hs) (tot : Nat) (Ah : Option Addr) (nh ch : Nat) (Af : Option Addr) (nf cf : Nat) (hnh : hs.length = nh) (hnf : fl.length = nf) (ht : tot < 4294967296) (hnf2 : nf ≤ 10000) (hnh2 : nh ≤ 10000) (pos : Int) (w : World)
    (hrh : Rd w Ah (hcl hs)) (hrf : Rd w Af (fl.map bv)) :
    Calls Tryd.prog 33 #[.agg (trc tot Ah nh ch Af nf cf).toArray, .int .i64 pos] w (FindPost w (qRt (pExt tot hs fl)) (qFnd tot hs fl pos)) := by
  have hz := zeros_32
  rw [show List.replicate 32 (0 : UInt8) = zs32 from rfl] at hz
  obtain ⟨T, hT1⟩ : ∃ T, T = w.heap.size := ⟨_, rfl⟩
  obtain ⟨W, hW⟩ : ∃ W, W = ((w.alloc (.cells (trc tot Ah nh ch Af nf cf).toArray 26)).alloc (.cells (zs32.map bv).toArray 28)).alloc (.cells (zs32.map bv).toArray 28) := ⟨_, rfl⟩
  have bW : Below w.heap.size w W := by rw [hW]; exact (((Below.refl _ _).alloc (Nat.le_refl _) _).alloc (by simp) _).alloc (by simp; omega) _
  have aT : Av W T 26 (trc tot Ah nh ch Af nf cf) := by rw [hW, hT1]; exact (Av.newer w (trc tot Ah nh ch Af nf cf) _ _).below ((Below.refl _ _).alloc (Nat.le_refl _) _)
  have aG : Av W (T + 1) 28 (zs32.map bv) := by rw [hW, hT1, ← World.size_alloc w (.cells (trc tot Ah nh ch Af nf cf).toArray 26)]; exact Av.newer _ _ _ _
  have aH : Av W (T + 2) 28 (zs32.map bv) := by rw [hW, hT1, show w.heap.size + 2 = ((w.alloc (.cells (trc tot Ah nh ch Af nf cf).toArray 26)).alloc (.cells (zs32.map bv).toArray 28)).heap.size by simp]; exact Av.new _ _ _
  have hzone : (zs32.map bv).all (·.oneCell') = true := rfl
  have g1 : w.heap.size ≤ T + 1 := by omega
  have g2 : w.heap.size ≤ T + 2 := by omega
  have g12 : T + 1 ≠ T + 2 := by omega
  have HE := ExtractR fl hs h32 tot Ah nh ch Af nf cf hnh hnf ht hnf2 hnh2 W (hrh.below bW) (hrf.below bW)
  obtain ⟨rx, L, er, hrx, hx32, hLn, hL32, hLp, her, hq, HX⟩ := ext_form (ans := pExt tot hs fl) (w0 := W) (fun r hr => by
    have hbd := pRd_bounds tot fl hs h32 _ _ _ _ _ (qExt_facts hr).2.2.1
    have hpl := (pRd_places tot fl hs _ _ _ _ r (qExt_facts hr).2.2.2 (qExt_facts hr).2.2.1).1
    have htb := (qExt_facts hr).2.1
    exact ⟨hbd.2.2.2.2.2.1, by have := hbd.2.2.2.1; have := hbd.2.2.2.2.1; omega, hbd.2.2.2.2.2.2, fun p hp => by have := (hpl p hp).2.2; omega⟩)
  have HE2 := HE.mono HX
  have hqf : qFnd tot hs fl pos = (qFind L pos).map fun y => (rx, y) := hq pos
  rw [hqf, ← hrx]
  clear HE HX hq hqf hrx
  obtain ⟨ans, hans⟩ : ∃ ans, ans = qFind L pos := ⟨_, rfl⟩
  rw [← hans]
  obtain ⟨n, hn⟩ : ∃ n, n = L.length := ⟨_, rfl⟩
  rw [← hn] at HE2 hLn
  have xv32 : (rx.map bv).length = 32 := by rw [List.length_map, hx32]
  have xone : (rx.map bv).all (·.oneCell') = true := List.all_eq_true.2 (bv_one rx)
  have hsW : T + 3 ≤ W.heap.size := aH.lt
  have her2 : 0 < n → er = 0 := fun h => by
    rcases her with e | e
    · exact e
    · rw [e] at hn; simp at hn; omega
  clear her
  replace her2 := Lib.hid her2
  replace hW := Lib.hid hW
  replace hT1 := Lib.hid hT1
  replace hzone := Lib.hid hzone
  replace HE2 := Lib.hid HE2
  replace hn := Lib.hid hn
  replace hans := Lib.hid hans
  replace hx32 := Lib.hid hx32
  replace hL32 := Lib.hid hL32
  replace hLp := Lib.hid hLp
  replace xv32 := Lib.hid xv32
  replace xone := Lib.hid xone
  replace hnh := Lib.hid hnh
  replace hnf := Lib.hid hnf
  go_enter Tryd.func33, Tryd.ntmps33
  go_upto_region 1 with fail
  rw [← hT1.out]
  rw [← hW.out]
  go_upto_region 2 with (first
    | ((with_reducible refine wpList_loadF 26 aT ?_ _ 3 ?_ Tryd.underlying26 ?_ ?_ ?_); rfl; rfl; rfl; kernel_rfl)
    | (go_at_call 49; refine (HE2.out).mono ?_; rintro e w1 ⟨b1, A, c, rfl, gA, rl1⟩)
    | ((with_reducible refine wpList_storeF 28 ((Below.refl w1.heap.size w1).alloc (Nat.le_refl _) _) (heap_alloc_new _ _) (Nat.le_refl _) (rx.map bv) ?_ ?_ 32 xv32.out ?_ ?_ ?_ ?_); rfl; rfl; kernel_rfl; rfl; exact xone.out; intro w2 a2 b2 k2 z2))
  have hw1 := b1.size
  have b12 := b1.trans (b2.mono b1.size)
  obtain ⟨R, hR⟩ : ∃ R, R = w1.heap.size := ⟨_, rfl⟩
  rw [← hR] at a2 ⊢
  have aG2 := aG.below b12
  have aH2 := aH.below b12
  have rl2 := rl1.below b2
  have bw2 : Below w.heap.size w w2 := bW.trans (b12.mono bW.size)
  have hR1 : R ≠ T + 1 := by omega
  have hR2 : R ≠ T + 2 := by omega
  have hAne : ∀ a, A = some a → a.block ≠ T + 1 := fun a e => by have := gA a e; omega
  replace hAne := Lib.hid hAne
  replace hR := Lib.hid hR
  clear b1 b2 k2 z2 b12 rl1 aT aG aH bW gA
  have hdr0 : qFind (L.drop 0) pos = ans := by rw [List.drop_zero]; exact hans.out.symm
  replace hdr0 := Lib.hid hdr0
  go_wp2
  go_loopw [10] (fun i wr => ∃ j : Nat, j ≤ n ∧ i = .int .i64 (j : Int) ∧ Hid (qFind (L.drop j) pos = ans) ∧ Below w2.heap.size w2 wr) (fun i _ => n - (intOf i).toNat)
  case atStart => exact ⟨0, by omega, rfl, hdr0, Below.refl _ _⟩
  case round =>
    obtain ⟨j, hj, rfl, hd, bw⟩ := hrel
    have bwr := bw2.trans (bw.mono bw2.size)
    have aGr := aG2.below bw
    have aHr := aH2.below bw
    have aRr := a2.below bw
    have rlr := rl2.below bw
    by_cases hlt : j < n
    · have u1 : decide ((j : Int) < (n : Int)) = true := by simp; omega
      have m1 : (j : Int) < (n : Int) := by omega
      have m0 : (0 : Int) ≤ (j : Int) := by omega
      have u3 : (er == 0) = true := by rw [her2.out (by omega)]; rfl
      obtain ⟨bX, oX, rfl⟩ := rlr.someA (mlc_ne0 (by rw [← hn.out]; omega))
      have hjl : j < L.length := by rw [← hn.out]; exact hlt
      obtain ⟨p, hp⟩ : ∃ p, L[j]? = some p := ⟨_, List.getElem?_eq_getElem hjl⟩
      have hpm := List.mem_of_getElem? hp
      have p32 := hL32.out p hpm
      have plt := hLp.out p hpm
      have hpv : ((p.2).map bv).length = 32 := by rw [List.length_map, p32]
      have hpone : ((p.2).map bv).all (·.oneCell') = true := List.all_eq_true.2 (bv_one p.2)
      have hrg := fun w' (h : Rd w' (some ⟨bX, oX, none⟩) (mlc L)) => Rd.piece mtc 33 L (fun e he => mtc_len (hL32.out e he)) h j p hp
      have c0 : wr.cell? ⟨bX, oX + j * 33, none⟩ = some (.int .i64 (p.1 : Int)) := by
        have := hrg wr rlr 0 (.int .i64 (p.1 : Int)) rfl
        rwa [Nat.add_zero] at this
      have hrg2 : ∀ w', Rd w' (some ⟨bX, oX, none⟩) (mlc L) → w'.rangeAt bX (oX + j * 33 + 1) (p.2.map bv) := fun w' h q u hq => by
        have := hrg w' h (q + 1) u (by rw [mtc, List.singleton_append, List.getElem?_cons_succ]; exact hq)
        rwa [show oX + j * 33 + (q + 1) = oX + j * 33 + 1 + q by omega] at this
      have hd2 : qFind (L.drop j) pos = if (p.1 : Int) = pos then some p.2 else qFind (L.drop (j + 1)) pos := by
        rw [List.drop_eq_getElem_cons hjl, qFind_cons, show L[j] = p by rw [List.getElem?_eq_getElem hjl] at hp; exact Option.some.inj hp]
      rw [hd.out] at hd2
      replace hd2 := Lib.hid hd2
      replace hp := Lib.hid hp
      replace hpv := Lib.hid hpv
      replace hpone := Lib.hid hpone
      replace hrg2 := Lib.hid hrg2
      clear hd hpm p32 hjl hrg
      by_cases he : (p.1 : Int) = pos
      · have u2 : ((p.1 : Int) == pos) = true := by simp [he]
        have hans2 : ans = some p.2 := by rw [hd2.out, if_pos he]
        have aG6 := aGr.drew
        have aR6 := aRr.drew
        replace hans2 := Lib.hid hans2
        replace hd2 := Lib.hid hd2
        replace he := Lib.hid he
        go_wp2
        refine wp_region_relG 7 [] [(6, fun w' => Av w' (T + 1) 28 (rx.map bv))] (RS (T + 1) 28 (rx.map bv)) (by kernel_rfl) (by kernel_rfl) (by kernel_rfl) (by kernel_rfl) (by kernel_rfl) (by kernel_rfl) (fun w => RS.refl w) RS.trans (by intro p hp; cases hp) (by
          intro p hp w w' hR h
          simp only [List.mem_singleton] at hp
          subst hp
          exact hR.2.1 h) ?_
        refine gel (fun w => RS.refl w) rfl (relPure (fun w => RS.refl w) rfl rfl rfl rfl (c := .agg (hcs rx)) (fun w hw => exec_loadAv (hw.1.av aR6 hR1) _ _ rfl rfl _ 32 xv32.out Tryd.underlying28 rfl (by kernel_rfl)) (by simp only [List.set_cons_succ, List.set_cons_zero]; rfl) (gend ?_))
        refine gel (fun w => RS.refl w) rfl (relMove (fun w => RS.refl w) rfl rfl rfl rfl _ (.inl rfl) (by conv => lhs; whnf) (by simp only [List.set_cons_succ, List.set_cons_zero]; rfl) (gend ?_))
        refine gel (fun w => RS.refl w) rfl (relMove (fun w => RS.refl w) rfl rfl rfl rfl _ (.inl rfl) (by conv => lhs; whnf) (by simp only [List.set_cons_succ, List.set_cons_zero]; rfl) (gend ?_))
        refine gel (fun w => RS.refl w) rfl (relPure (fun w => RS.refl w) rfl rfl rfl rfl (fun w hw => by go_simp; first | done | rfl) (by simp only [List.set_cons_succ, List.set_cons_zero]; rfl) (gend ?_))
        refine gel (fun w => RS.refl w) rfl (relPure (fun w => RS.refl w) rfl rfl rfl rfl (fun w hw => by go_simp; first | done | rfl) (by simp only [List.set_cons_succ, List.set_cons_zero]; rfl) (gend ?_))
        refine gel (fun w => RS.refl w) rfl (relPure (fun w => RS.refl w) rfl rfl rfl rfl (c := .agg (hcs p.2)) (fun w hw => exec_load_mid _ _ rfl bX (oX + j * 33 + 1) rfl (p.2.map bv) _ (hrg2.out w ((Fr.ofDrew hw.1).rd rlr hAne.out)) Tryd.underlying28 rfl (by rw [hpv.out]; kernel_rfl)) (by simp only [List.set_cons_succ, List.set_cons_zero]; rfl) (gend ?_))
        refine gStore rfl rfl (fun w hw => exec_storeAv (C := rx.map bv) aG6 (by rw [xv32.out]; rfl) hw _ _ _ rfl rfl rfl 32 xv32.out (by kernel_rfl) xone.out 6) ?_
        refine relEndG fun w6 hw6 hg => ?_
        simp only [List.drop_succ_cons, List.drop_zero]
        have a6 := hg (6, fun w' => Av w' (T + 1) 28 (rx.map bv)) (List.mem_singleton.2 rfl)
        have f6 := Fr.ofDrew hw6.1
        have aH7 := f6.av aHr (Ne.symm g12)
        have bw6 := bwr.trans (f6.below (fun k hk => by rw [hk]; exact g1) bwr.size)
        go_wp2_with ((with_reducible refine wpList_storeFA 28 (Below.refl w.heap.size w6) aH7 g2 (p.2.map bv) ?_ ?_ 32 hpv.out ?_ ?_ ?_ ?_); rfl; rfl; kernel_rfl; rfl; exact hpone.out; intro w7 a7 b7 k7 z7)
        refine bodyPost_ret (v := .tuple #[.agg (hcs rx), .agg (hcs p.2), .bool true]) ((results_ccAv (C := rx.map bv) (C' := p.2.map bv) (by rfl) (by rfl) (by rfl) (a6.same (k7 _ g12)) a7 _ Tryd.underlying28 rfl 32 xv32.out hpv.out (by kernel_rfl)).trans (by rfl)) (by rfl) ?_
        rw [hans2.out]
        exact ⟨bw6.trans b7, rfl⟩
      · have u2 : ((p.1 : Int) == pos) = false := by simp [he]
        have hd3 : qFind (L.drop (j + 1)) pos = ans := by rw [hd2.out, if_neg he]
        replace hd3 := Lib.hid hd3
        replace hd2 := Lib.hid hd2
        go_wp2
        go_roundw
        case rel => exact ⟨j + 1, by omega, by go_num, hd3, bw⟩
        case measure =>
          simp [intOf]
          omega
    · obtain rfl : j = n := by omega
      have u1 : decide ((j : Int) < (j : Int)) = false := by simp
      have hans2 : ans = none := by
        rw [← hd.out, List.drop_of_length_le (by rw [← hn.out]; exact Nat.le_refl _)]
        rfl
      replace hans2 := Lib.hid hans2
      clear hd
      go_wp2_with (first
        | ((with_reducible refine wpList_loadF 28 aRr ?_ _ 32 xv32.out Tryd.underlying28 ?_ ?_ ?_); rfl; rfl; kernel_rfl)
        | ((with_reducible refine wpList_bld (.agg (zs32.map bv).toArray) ?_ ?_); kernel_rfl)
        | ((with_reducible refine wpList_storeFA 28 (Below.refl w.heap.size wr) aGr g1 (rx.map bv) ?_ ?_ 32 xv32.out ?_ ?_ ?_ ?_); rfl; rfl; kernel_rfl; rfl; exact xone.out; intro w3 a3 b3 k3 z3)
        | ((with_reducible refine wpList_storeFA 28 b3 (aHr.same (k3 _ (Ne.symm g12))) g2 (zs32.map bv) ?_ ?_ 32 rfl ?_ ?_ ?_ ?_); rfl; rfl; kernel_rfl; rfl; exact hzone.out; intro w4 a4 b4 k4 z4))
      refine bodyPost_ret (v := .tuple #[.agg (hcs rx), .agg (hcs zs32), .bool false]) ((results_ccAv (C := rx.map bv) (C' := zs32.map bv) (by rfl) (by rfl) (by rfl) (a3.same (k4 _ g12)) a4 _ Tryd.underlying28 rfl 32 xv32.out rfl (by kernel_rfl)).trans (by rfl)) (by rfl) ?_
      rw [hans2.out]
      exact ⟨bwr.trans b4, rfl⟩
theorem qRt_32 {tot : Nat} {hs : List (List UInt8)} {fl : List UInt8} (h32 : All32 hs) : (qRt (pExt tot hs fl)).length = 32 := by
  cases h : pExt tot hs fl with
  | none => rfl
  | some r => exact (pRd_bounds tot fl hs h32 _ _ _ _ _ (qExt_facts h).2.2.1).2.2.2.2.2.1
/-- what find answers, both ways -/
def fndR (rt : List UInt8) : Option (List UInt8 × List UInt8) → List UInt8 × List UInt8 × Bool
  | none => (rt, zs32, false)
  | some r => (r.1, r.2, true)
theorem FindRH (fl : List UInt8) (hs : List (List UInt8)) (h32 : All32 hs) (tot : Nat) (Ah : Option Addr) (nh ch : Nat) (Af : Option Addr) (nf cf : Nat) (hnh : hs.length = nh) (hnf : fl.length = nf) (ht : tot < 4294967296) (hnf2 : nf ≤ 10000) (hnh2 : nh ≤ 10000) (pos : Int) (w : World)
    (hrh : Rd w Ah (hcl hs)) (hrf : Rd w Af (fl.map bv)) (f : List UInt8 × List UInt8 × Bool) (hf : f = fndR (qRt (pExt tot hs fl)) (qFnd tot hs fl pos)) :
    (Calls Tryd.prog 33 #[.agg (trc tot Ah nh ch Af nf cf).toArray, .int .i64 pos] w fun e w' => Below w.heap.size w w' ∧ e = .returned (.tuple #[.agg (hcs f.1), .agg (hcs f.2.1), .bool f.2.2])) := by
  refine (FindR fl hs h32 tot Ah nh ch Af nf cf hnh hnf ht hnf2 hnh2 pos w hrh hrf).mono ?_
  intro e w' h
  rw [hf]
  unfold FindPost at h
  cases hq : qFnd tot hs fl pos with
  | none => rw [hq] at h; exact h
  | some r => rw [hq] at h; exact h
theorem fndR_32 {tot : Nat} {hs : List (List UInt8)} {fl : List UInt8} {pos : Int} (h32 : All32 hs) : (fndR (qRt (pExt tot hs fl)) (qFnd tot hs fl pos)).1.length = 32 ∧ (fndR (qRt (pExt tot hs fl)) (qFnd tot hs fl pos)).2.1.length = 32 := by
  cases hq : qFnd tot hs fl pos with
  | none => exact ⟨qRt_32 h32, rfl⟩
  | some r => exact qFnd_32 (x := r.1) (y := r.2) h32 hq
end Go.Proofs.YtdkknincamkhpaaDoor
/- proof.Path. -/
namespace Go.Proofs.YtdkknincamkhpaaDoor
open Go.RowKit
attribute [local go_sem high] slB_lh slB_l slB_h
theorem own_A {w : World} {base : Nat} {e : TypeId} {size n k c : Nat} {A : Option Addr} {xs : List Value} (h : w.ownsRow base e size (.slice A k c) n xs) : ∀ a, A = some a → base ≤ a.block := by
  intro a ha
  rcases h.2 with ⟨e, _⟩ | ⟨g, cap, cur, e, hb, _⟩
  · injection e with e1 e2 e3
    rw [e1] at ha
    cases ha
  · injection e with e1 e2 e3
    rw [e1] at ha
    injection ha with ha
    rw [← ha]
    exact hb
/-- the level with one hash of a part's tree -/
theorem PHt (n : Nat) (hn : n ≤ 4096) (w : World) : Calls Tryd.prog 24 #[.int .i64 (n : Int)] w fun e w' => e = .returned (.int .i64 ((pHt n : Nat) : Int)) ∧ w' = w := by
  obtain ⟨h12, hlo, hhi⟩ := pHt_spec n hn
  refine Height (n : Int) (pHt n) h12 (fun j hj => ?_) ?_ w
  · rw [pWd_of n j hn (by omega)]
    have := hlo j hj
    omega
  · rw [pWd_of n _ hn h12]
    omega
/-- what Path answers -/
def PathPost (w0 : World) (ans : Option (List (List UInt8))) (e : Ending) (w' : World) : Prop :=
  Below w0.heap.size w0 w' ∧ match ans with
  | none => e = .returned (.tuple #[.slice none 0 0, .bool false])
  | some l => ∃ A c, e = .returned (.tuple #[.slice A l.length c, .bool true]) ∧ l.length ≤ c ∧ (∀ a, A = some a → w0.heap.size ≤ a.block) ∧ Rd w' A (hcl l)
set_option maxRecDepth 100000 in
set_option maxHeartbeats 8000000 in
theorem PPath_none (fl : List UInt8) (hs : List (List UInt8)) (h32 : All32 hs) (tot : Nat) (Ah : Option Addr) (nh ch : Nat) (Af : Option Addr) (nf cf : Nat) (hnh : hs.length = nh) (hnf : fl.length = nf) (ht : tot < 4294967296) (hnf2 : nf ≤ 10000) (hnh2 : nh ≤ 10000) (pos : Int) (w : World)
    (hrh : Rd w Ah (hcl hs)) (hrf : Rd w Af (fl.map bv)) (hT : Tabs w) (hq : qFnd tot hs fl pos = none) :
    Calls Tryd.prog 11 #[.agg (trc tot Ah nh ch Af nf cf).toArray, .int .i64 pos] w (PathPost w none) := by
  have HF := fun w' r r2 t => PFound fl hs h32 tot Ah nh ch Af nf cf hnh hnf ht hnf2 hnh2 pos w' r r2 t
  rw [hq] at HF
  unfold FndPost at HF
  dsimp only at HF
  obtain ⟨T, hT1⟩ : ∃ T, T = w.heap.size := ⟨_, rfl⟩
  obtain ⟨W, hW⟩ : ∃ W, W = w.alloc (.cells (trc tot Ah nh ch Af nf cf).toArray 33) := ⟨_, rfl⟩
  have bW : Below w.heap.size w W := by rw [hW]; exact (Below.refl _ _).alloc (Nat.le_refl _) _
  have aT : Av W T 33 (trc tot Ah nh ch Af nf cf) := by rw [hW, hT1]; exact Av.new _ _ _
  have HF2 := HF W (hrh.below bW) (hrf.below bW) (hT.below bW)
  have hzone : (zs32.map bv).all (·.oneCell') = true := rfl
  have hz := zeros_32
  rw [show List.replicate 32 (0 : UInt8) = zs32 from rfl] at hz
  replace hW := Lib.hid hW
  replace hT1 := Lib.hid hT1
  replace hzone := Lib.hid hzone
  clear HF
  replace HF2 := Lib.hid HF2
  go_enter Tryd.func11, Tryd.ntmps11
  go_upto_region 1 with fail
  rw [← hT1.out]
  rw [← hW.out]
  go_wp2_with (first
    | ((with_reducible refine wpList_loadF 33 aT ?_ _ 3 ?_ Tryd.underlying33 ?_ ?_ ?_); rfl; rfl; rfl; kernel_rfl)
    | (go_at_call 31; refine (HF2.out).mono ?_; rintro e w1 ⟨b1, rfl⟩)
    | ((with_reducible refine wpList_storeF 28 (((Below.refl w1.heap.size w1).alloc (Nat.le_refl _) _).alloc (by simp) _) (heap_alloc2_old _ _ _) (Nat.le_refl _) (zs32.map bv) ?_ ?_ 32 rfl ?_ ?_ ?_ ?_); rfl; rfl; kernel_rfl; rfl; exact hzone.out; intro w2 a2 b2 k2 z2)
    | ((with_reducible refine wpList_storeF 28 b2 ((k2 _ (by omega)).trans (heap_alloc2_new _ _ _)) (by omega) (zs32.map bv) ?_ ?_ 32 rfl ?_ ?_ ?_ ?_); rfl; rfl; kernel_rfl; rfl; exact hzone.out; intro w3 a3 b3 k3 z3))
  go_ret2
  exact ⟨bW.trans ((b1.trans (b3.mono b1.size)).mono bW.size), rfl⟩
set_option maxRecDepth 100000 in
set_option maxHeartbeats 8000000 in
theorem PPath_some (fl : List UInt8) (hs : List (List UInt8)) (h32 : All32 hs) (tot : Nat) (Ah : Option Addr) (nh ch : Nat) (Af : Option Addr) (nf cf : Nat) (hnh : hs.length = nh) (hnf : fl.length = nf) (ht : tot < 4294967296) (hnf2 : nf ≤ 10000) (hnh2 : nh ≤ 10000) (pos : Int) (w : World)
    (hrh : Rd w Ah (hcl hs)) (hrf : Rd w Af (fl.map bv)) (hT : Tabs w) (rx ry : List UInt8) (hq : qFnd tot hs fl pos = some (rx, ry)) :
    Calls Tryd.prog 11 #[.agg (trc tot Ah nh ch Af nf cf).toArray, .int .i64 pos] w (PathPost w (some (qPath tot hs fl pos))) := by
  have HF := fun w' r r2 t => PFound fl hs h32 tot Ah nh ch Af nf cf hnh hnf ht hnf2 hnh2 pos w' r r2 t
  rw [hq] at HF
  unfold FndPost at HF
  dsimp only at HF
  obtain ⟨x32, y32⟩ := qFnd_32 h32 hq
  obtain ⟨ql, _, hp0, htot, hp1⟩ := qPath_climbs hq
  have hxr : ∃ r, pRd tot fl hs (pHt tot) 0 0 0 = some r := by
    unfold qFnd at hq
    obtain ⟨r, h1, _⟩ := Option.bind_eq_some_iff.1 hq
    exact ⟨r, (qExt_facts h1).2.2.1⟩
  obtain ⟨r, hr⟩ := hxr
  obtain ⟨P, hP⟩ : ∃ P : Nat, pos = (P : Int) := ⟨pos.toNat, by omega⟩
  subst hP
  have hP1 : P ≤ 100000 := by omega
  have hHt := pHt_spec tot htot
  have xv32 : (rx.map bv).length = 32 := by rw [List.length_map, x32]
  have yv32 : (ry.map bv).length = 32 := by rw [List.length_map, y32]
  have xone : (rx.map bv).all (·.oneCell') = true := List.all_eq_true.2 (bv_one rx)
  have yone : (ry.map bv).all (·.oneCell') = true := List.all_eq_true.2 (bv_one ry)
  have hpow : (0 + 1) * 2 ^ pHt tot ≤ 8192 := by rw [Nat.one_mul]; exact Nat.le_trans (Nat.pow_le_pow_right (by omega) hHt.1) (by decide)
  have hpow2 : ([] : List (List UInt8)).length + 2 ^ pHt tot ≤ 100000 := by rw [List.length_nil]; omega
  have HH := fun w => PHt tot htot w
  have HN := fun C w0 a b c d w' e => PNode fl hs h32 tot Ah nh ch Af nf cf P C hnh hnf hnf2 hnh2 w0 a b c d htot hP1 (pHt tot) 0 0 0 r (.slice none 0 0) [] w' (by omega) hpow hpow2 hr e
  obtain ⟨Q, hQ⟩ : ∃ Q, Q = qPath tot hs fl (P : Int) := ⟨_, rfl⟩
  have hQ2 : pPth tot fl hs P (pHt tot) 0 0 0 = Q := by rw [hQ]; unfold qPath; rfl
  rw [hQ2] at HN
  rw [← hQ]
  have hd0 : (0 : Nat) ≤ pHt tot := Nat.zero_le _
  obtain ⟨K, hK⟩ : ∃ K, K = pHt tot := ⟨_, rfl⟩
  rw [← hK] at HN HH
  obtain ⟨T, hT1⟩ : ∃ T, T = w.heap.size := ⟨_, rfl⟩
  obtain ⟨W, hW⟩ : ∃ W, W = w.alloc (.cells (trc tot Ah nh ch Af nf cf).toArray 33) := ⟨_, rfl⟩
  have bW : Below w.heap.size w W := by rw [hW]; exact (Below.refl _ _).alloc (Nat.le_refl _) _
  have aT : Av W T 33 (trc tot Ah nh ch Af nf cf) := by rw [hW, hT1]; exact Av.new _ _ _
  have HF2 := HF W (hrh.below bW) (hrf.below bW) (hT.below bW)
  have hzone : (zs32.map bv).all (·.oneCell') = true := rfl
  have hz := zeros_32
  rw [show List.replicate 32 (0 : UInt8) = zs32 from rfl] at hz
  replace hW := Lib.hid hW
  replace hT1 := Lib.hid hT1
  replace hzone := Lib.hid hzone
  clear HF
  replace HF2 := Lib.hid HF2
  replace HN := Lib.hid HN
  replace HH := Lib.hid HH
  replace hQ := Lib.hid hQ
  replace hQ2 := Lib.hid hQ2
  replace hK := Lib.hid hK
  replace hr := Lib.hid hr
  replace hq := Lib.hid hq
  replace ql := Lib.hid ql
  replace x32 := Lib.hid x32
  replace y32 := Lib.hid y32
  replace xv32 := Lib.hid xv32
  replace yv32 := Lib.hid yv32
  replace xone := Lib.hid xone
  replace yone := Lib.hid yone
  replace hpow := Lib.hid hpow
  replace hpow2 := Lib.hid hpow2
  replace hHt := Lib.hid hHt
  go_enter Tryd.func11, Tryd.ntmps11
  go_upto_region 1 with fail
  rw [← hT1.out]
  rw [← hW.out]
  go_upto_region 4 with (first
    | ((with_reducible refine wpList_loadF 33 aT ?_ _ 3 ?_ Tryd.underlying33 ?_ ?_ ?_); rfl; rfl; rfl; kernel_rfl)
    | (go_at_call 31; refine (HF2.out).mono ?_; rintro e w1 ⟨b1, rfl⟩)
    | ((with_reducible refine wpList_storeF 28 (((Below.refl w1.heap.size w1).alloc (Nat.le_refl _) _).alloc (by simp) _) (heap_alloc2_old _ _ _) (Nat.le_refl _) (rx.map bv) ?_ ?_ 32 xv32.out ?_ ?_ ?_ ?_); rfl; rfl; kernel_rfl; rfl; exact xone.out; intro w2 a2 b2 k2 z2)
    | ((with_reducible refine wpList_storeF 28 b2 ((k2 _ (by omega)).trans (heap_alloc2_new _ _ _)) (by omega) (ry.map bv) ?_ ?_ 32 yv32.out ?_ ?_ ?_ ?_); rfl; rfl; kernel_rfl; rfl; exact yone.out; intro w3 a3 b3 k3 z3))
  have bw3 := bW.trans ((b1.trans (b3.mono b1.size)).mono bW.size)
  have aT3 := (aT.below b1).below b3
  clear a2 b2 k2 z2 a3 k3 z3 b3 b1 aT HF2 bW
  go_upto_region 5 with (first
    | ((with_reducible refine wpList_loadF 33 aT3 ?_ _ 3 ?_ Tryd.underlying33 ?_ ?_ ?_); rfl; rfl; rfl; kernel_rfl)
    | ((with_reducible refine wpList_bld (.agg (clc tot Ah nh ch Af nf cf (P : Int) 0 0 (.slice none 0 0)).toArray) ?_ ?_); kernel_rfl))
  obtain ⟨W2, hW2⟩ : ∃ W2, W2 = w3.alloc (.cells (clc tot Ah nh ch Af nf cf (P : Int) 0 0 (.slice none 0 0)).toArray 71) := ⟨_, rfl⟩
  obtain ⟨C, hC⟩ : ∃ C, C = w3.heap.size := ⟨_, rfl⟩
  have aC : Av W2 C 71 (clc tot Ah nh ch Af nf cf (P : Int) 0 0 (.slice none 0 0)) := by rw [hW2, hC]; exact Av.new _ _ _
  have b2 : Below w3.heap.size w3 W2 := by rw [hW2]; exact (Below.refl _ _).alloc (Nat.le_refl _) _
  have HN2 := HN.out C w3 (by rw [hC]; exact Nat.le_refl _) (hrh.below bw3) (hrf.below bw3) (hT.below bw3) W2 ⟨b2, aC, World.ownsRow_nil _ _ _ _⟩
  have aT4 := aT3.below b2
  have c0 := aT4.cell 0 _ rfl
  have hCw : w.heap.size ≤ C + 1 := by have := bw3.size; omega
  rw [← hW2, ← hC]
  replace HN2 := Lib.hid HN2
  replace hW2 := Lib.hid hW2
  replace hC := Lib.hid hC
  clear HN aT3 aC b2
  go_upto_region 6 with (first
    | (go_at_call 24; refine (HH.out _).mono ?_; rintro e wx ⟨rfl, rfl⟩)
    | (go_at_call 32; refine (HN2.out).mono ?_; rintro e w5 ⟨rfl, v, N5, K5⟩))
  have own5 := N5.own
  rw [List.nil_append] at own5
  obtain ⟨A, c, rfl, hlc, _⟩ := own_form own5
  have c6 := N5.av.cell 6 _ rfl
  have bw5 := bw3.trans (N5.below.mono bw3.size)
  have hA := own_A own5
  have hrd := own_rd own5
  clear K5 HN2 c0
  replace own5 := Lib.hid own5
  replace hA := Lib.hid hA
  go_wp2
  go_ret2
  exact ⟨bw5, A, c, rfl, hlc, fun a e => Nat.le_trans hCw (hA.out a e), hrd⟩
theorem PPath (fl : List UInt8) (hs : List (List UInt8)) (h32 : All32 hs) (tot : Nat) (Ah : Option Addr) (nh ch : Nat) (Af : Option Addr) (nf cf : Nat) (hnh : hs.length = nh) (hnf : fl.length = nf) (ht : tot < 4294967296) (hnf2 : nf ≤ 10000) (hnh2 : nh ≤ 10000) (pos : Int) (w : World)
    (hrh : Rd w Ah (hcl hs)) (hrf : Rd w Af (fl.map bv)) (hT : Tabs w) :
    Calls Tryd.prog 11 #[.agg (trc tot Ah nh ch Af nf cf).toArray, .int .i64 pos] w (PathPost w ((qFnd tot hs fl pos).map fun _ => qPath tot hs fl pos)) := by
  cases hq : qFnd tot hs fl pos with
  | none => exact PPath_none fl hs h32 tot Ah nh ch Af nf cf hnh hnf ht hnf2 hnh2 pos w hrh hrf hT hq
  | some r => exact PPath_some fl hs h32 tot Ah nh ch Af nf cf hnh hnf ht hnf2 hnh2 pos w hrh hrf hT r.1 r.2 hq
end Go.Proofs.YtdkknincamkhpaaDoor
