/- The law TreeBest: the walk. -/
import Derived.Test.YtijnkieakenipaaDoorTb
namespace Go.Proofs.YtijnkieakenipaaDoor
open Go.RowKit
attribute [local go_sem] zvN zvH
attribute [local simp] zcN_ne zcH_ne
def eAll (l : List Hd) : Bool := l.all fun h => easyB h.bits
theorem eAll_take (l : List Hd) (k : Nat) (x : Hd) (h : l[k]? = some x) : eAll (l.take (k + 1)) = (eAll (l.take k) && easyB x.bits) := by
  rw [List.take_add_one, h]
  simp [eAll]
theorem eAll_mem {l : List Hd} (h : eAll l = true) (n : Nat) : ∀ x ∈ mAll n l, easyB x.head.bits = true := fun x hx => List.all_eq_true.1 h _ (mAll_mem n l x hx)
theorem node_any (ns : List Nd) (ok : NdsOk ns) (i : Int) : ∃ (C : List Value) (q : Bool), nodeV ns i = .tuple #[.agg C.toArray, .bool q] ∧ C.length = 106 ∧ C.all (·.oneCell') = true := by
  unfold nodeV
  split
  · rename_i n hn
    refine ⟨_, _, rfl, ndc_length (ok n ?_), List.all_eq_true.2 (ndc_one n)⟩
    split at hn
    · exact List.mem_of_getElem? hn
    · cases hn
  · exact ⟨ndc zeroNd, _, rfl, by rfl, by decide⟩
theorem cmpN_le {a b : Nat} (h : a ≤ b) : decide ((0 : Int) < cmpN a b) = false := by rw [cmpN_pos2]; simpa using h
theorem eqlUn (n m : Nat) (x y : Operand) (w : World) (hn : n < 115792089237316195423570985008687907853269984665640564039457584007913129639936) (hm : m < 115792089237316195423570985008687907853269984665640564039457584007913129639936) : (do eqGuard .eql 39 x y (.agg (uc n).toArray) (.agg (uc m).toArray); binOp .eql 39 (.agg (uc n).toArray) (.agg (uc m).toArray) : Sem Value).run Tryd.prog w = .ok (.bool (decide (n = m))) w := by
  have e := uc_inj hn hm
  unfold uc at e ⊢
  rw [eqlUg]
  congr 2
  rw [decide_eq_decide, ← e]
  exact u4_eq.symm
theorem wpList_loadMG {P : Program} (ty : TypeId) {w : World} {b off : Nat} (cs : List Value) (hc : w.rangeAt b off cs) {ops : Array Oper} {rest : List Oper} {a : Act} {Q : Exit → Act → World → Prop} {d tp pos af gu} {x : Operand}
    (hw : Region.wanted ⟨d, .load ty x, tp, pos, af, gu⟩ (yielded ops a.tmps) = true) (hx : a.eval x = .pointer (some ⟨b, off, none⟩)) (dd : TypeDesc) (hu : P.underlying ty = some dd) (hd : dd.isRow = true) (hi : (P.info? ty).map (·.size) = some cs.length)
    (k : wpList P ops Q rest (a.put d (.agg cs.toArray)) w) : wpList P ops Q (⟨d, .load ty x, tp, pos, af, gu⟩ :: rest) a w :=
  wpList_execW hw (exec_load_mid ty x rfl b off hx cs dd hc hu hd hi) k
theorem wpList_binH {P : Program} {op : BinOp} {ty : TypeId} {X Y c : Value} {w : World} {x y : Operand} (h : (do eqGuard op ty x y X Y; binOp op ty X Y : Sem Value).run P w = .ok c w) {ops : Array Oper} {rest : List Oper} {a : Act} {Q : Exit → Act → World → Prop} {d tp pos af gu} {t2 : TypeId}
    (hw : Region.wanted ⟨d, .binOp op ty x y t2, tp, pos, af, gu⟩ (yielded ops a.tmps) = true) (hx : a.eval x = X) (hy : a.eval y = Y)
    (k : wpList P ops Q rest (a.put d c) w) : wpList P ops Q (⟨d, .binOp op ty x y t2, tp, pos, af, gu⟩ :: rest) a w := by
  subst hx hy
  refine wpList_execW hw ?_ k
  have e : execOp a.eval ⟨d, .binOp op ty x y t2, tp, pos, af, gu⟩ = (do pure (.value (← (do eqGuard op ty x y (a.eval x) (a.eval y); binOp op ty (a.eval x) (a.eval y))))) := rfl
  rw [e, Sem.run_bind, h]
  rfl
theorem any_take (l : List Nat) (k j B : Nat) (h : l[k]? = some j) : (l.take (k + 1)).any (· == B) = ((l.take k).any (· == B) || j == B) := by
  rw [List.take_add_one, h]
  simp
set_option maxRecDepth 100000 in
set_option maxHeartbeats 8000000 in
theorem law_TreeBest (l : List Hd) (A : Option Addr) (n c : Nat) (hn : l.length = n) (w : World) (ht : Tabs w) (hr : RdHds w A l) :
    Calls Tryd.prog 5 #[.slice A n c] w fun e w' => e = .returned (.bool true) ∧ Below w.heap.size w w' := by
  have HAW := Lib.hid (awake15 w ht)
  replace hn := Lib.hid hn
  by_cases hbig : 40 < n
  · have t0 : decide ((40 : Int) < (n : Int)) = true := by simp; omega
    have t0' : decide (40 < n) = true := by simpa using hbig
    clear hr
    go_enter Tryd.func5, Tryd.ntmps5
    go_wp2_with (go_at_call 9; refine (HAW.out).mono ?_; rintro e w1 ⟨rfl, b1⟩)
    go_ret
    exact ⟨rfl, b1⟩
  have t0 : decide ((40 : Int) < (n : Int)) = false := by simp; omega
  have t0' : decide (40 < n) = false := by simpa using hbig
  go_enter Tryd.func5, Tryd.ntmps5
  go_upto_region 2 with (go_at_call 9; refine (HAW.out).mono ?_; rintro e w1 ⟨rfl, b1⟩)
  have HN := Lib.hid (TNew 60 w1)
  obtain ⟨Bs, hBs⟩ : ∃ B, B = w1.heap.size := ⟨_, rfl⟩
  have hBw : w.heap.size ≤ Bs := by rw [hBs]; exact b1.size
  have e60 : clampN 60 = 60 := rfl
  rw [e60, ← hBs] at HN
  replace hBs := Lib.hid hBs
  clear e60
  go_upto_region 5 with (go_at_call 10; refine (HN.out).mono ?_; rintro e w2 ⟨⟨R, M, rfl, T2⟩, b2⟩)
  have b02 : Below w.heap.size w w2 := b1.trans (b2.mono hBw)
  clear b1 b2
  go_upto_region 7 with fail
  go_loopw [5, 6] (fun ev iv wr => ∃ (k : Nat) (v : Value), k ≤ n ∧ iv = .int .i64 (k : Int) ∧ ev = .bool (eAll (l.take k)) ∧ TAt wr Bs R 60 v M (mAll 60 (l.take k)) ∧ Below w.heap.size w wr) (fun _ iv _ => n - (intOf iv).toNat)
  case atStart => exact ⟨0, _, by omega, rfl, rfl, T2, b02⟩
  case round =>
    clear T2 b02
    obtain ⟨k, v, hk, rfl, rfl, T, bw⟩ := hrel
    by_cases hlt : k < n
    · have t1 : decide ((k : Int) < (n : Int)) = true := by simp; omega
      obtain ⟨x, hx⟩ : ∃ x, l[k]? = some x := ⟨_, List.getElem?_eq_getElem (by rw [hn.out]; exact hlt)⟩
      obtain ⟨b, off, rfl⟩ := hr.adr (by rw [hn.out]; omega)
      obtain ⟨rx, xok⟩ := (hr.below bw).nth k x hx
      have hBr : Bs ≤ wr.heap.size := Nat.le_trans T.hR (Nat.le_of_lt T.av.lt)
      have HA := Lib.hid (TAdd Bs R 60 v M (mAll 60 (l.take k)) x xok wr (ht.below bw) T hBr)
      have hnx := Lib.hid (mAll_take 60 l k x hx)
      have x68 := Lib.hid (hdc_length xok)
      have rx2 := Lib.hid rx
      have m0 : (0 : Int) ≤ (k : Int) := by omega
      have m1 : (k : Int) < (n : Int) := by omega
      replace hx := Lib.hid hx
      clear rx
      have c66 := (hdc_at xok).2.2.1
      have CB : ∀ w', Below w.heap.size w w' → w'.cell? ⟨b, off + k * 68 + 66, none⟩ = some (.int .u32 (x.bits : Int)) := fun w' h => rg_cell ((hr.below h).nth k x hx.out).1 c66
      have eN := Lib.hid (eAll_take l k x hx.out)
      obtain ⟨E, hE⟩ : ∃ E, E = eAll (l.take k) := ⟨_, rfl⟩
      rw [← hE] at eN
      obtain ⟨y, hy⟩ : ∃ y, y = x.bits := ⟨_, rfl⟩
      rw [← hy] at CB eN
      replace hy := Lib.hid hy
      replace CB := Lib.hid CB
      rw [← hE]
      replace hE := Lib.hid hE
      clear c66
      go_upto_region 10 with (first
        | ((with_reducible refine wpList_loadMF 27 (hdc x) rx2.out ?_ _ Tryd.underlying27 ?_ ?_ ?_); rfl; rfl; (rw [x68.out]; kernel_rfl))
        | (go_at_call 11; refine (HA.out).mono ?_; rintro e w5 ⟨rfl, ⟨v5, T5⟩, b5, K5⟩))
      rw [← hnx.out] at T5
      replace T5 := Lib.hid T5
      have b05 := bw.trans (b5.mono hBw)
      have cb := CB.out _ b05
      replace b05 := Lib.hid b05
      clear b5 K5 T HA
      cases E
      · go_wp2
        refine ⟨⟨k + 1, v5, by omega, by go_num, by rw [eN.out]; rfl, T5.out, b05.out⟩, ?_⟩
        simp [intOf]; omega
      · by_cases g1 : 538968063 ≤ y
        · have t2 : decide ((538968063 : Int) ≤ (y : Int)) = true := by simp; omega
          have t2' : decide (538968063 ≤ y) = true := by simpa using g1
          by_cases g2 : y ≤ 545259519
          · have t3 : decide ((y : Int) ≤ 545259519) = true := by simp; omega
            have t3' : decide (y ≤ 545259519) = true := by simpa using g2
            go_wp2
            refine ⟨⟨k + 1, v5, by omega, by go_num, by rw [eN.out]; simp [easyB, g1, g2], T5.out, b05.out⟩, ?_⟩
            simp [intOf]; omega
          · have t3 : decide ((y : Int) ≤ 545259519) = false := by simp; omega
            have t3' : decide (y ≤ 545259519) = false := by simpa using g2
            go_wp2
            refine ⟨⟨k + 1, v5, by omega, by go_num, by rw [eN.out]; simp [easyB, g1, g2], T5.out, b05.out⟩, ?_⟩
            simp [intOf]; omega
        · have t2 : decide ((538968063 : Int) ≤ (y : Int)) = false := by simp; omega
          have t2' : decide (538968063 ≤ y) = false := by simpa using g1
          go_wp2
          refine ⟨⟨k + 1, v5, by omega, by go_num, by rw [eN.out]; simp [easyB, g1], T5.out, b05.out⟩, ?_⟩
          simp [intOf]; omega
    · obtain rfl : k = n := by omega
      have t1 : decide ((k : Int) < (k : Int)) = false := by simp
      have htk : l.take k = l := List.take_of_length_le (by rw [hn.out]; exact Nat.le_refl _)
      rw [htk] at T
      obtain ⟨ns, hns⟩ : ∃ ns, ns = mAll 60 l := ⟨_, rfl⟩
      rw [← hns] at T
      have ok : TOk ns := T.ok
      have hnl : ns.length ≤ k := by rw [hns, ← hn.out]; exact mAll_len 60 l
      replace htk := Lib.hid htk
      replace hns := Lib.hid hns
      obtain ⟨w3, hw3⟩ : ∃ w3, w3 = wr := ⟨_, rfl⟩
      rw [← hw3] at T bw ⊢
      clear hw3
      obtain ⟨N, hN⟩ : ∃ N, N = ns.length := ⟨_, rfl⟩
      have hNk : N ≤ k := by omega
      have hpos : decide (0 < N) = decide (0 < k) := by
        by_cases hk0 : 0 < k
        · rw [decide_eq_true hk0, decide_eq_true_eq, hN, hns.out]; exact mAll_pos 60 l (by omega) (by rw [hn.out]; omega)
        · rw [decide_eq_false hk0, decide_eq_false_iff_not]; omega
      obtain ⟨B, hB⟩ : ∃ B, B = mBest ns := ⟨_, rfl⟩
      have HB := fun (w' : World) (q : TRef w' (.pointer (some ⟨R, 0, none⟩)) ns) => TBest _ ns w' q
      rw [← hB, ← hN, hpos] at HB
      have hgt : 0 < k → B < N ∧ (∀ i, i < N → tWrk ns i ≤ tWrk ns B) ∧ ∀ i, i < B → tWrk ns i < tWrk ns B := fun h => by
        have h1 : 0 < N := by rw [decide_eq_true h, decide_eq_true_eq] at hpos; exact hpos
        have := tBest_spec ns ns.length (by omega)
        rw [show tBest ns ns.length = B by rw [hB, mBest], ← hN] at this
        exact this
      have hBx : k = 0 → B = 0 := fun h => by
        have h1 : N = 0 := by omega
        rw [hN] at h1
        rw [hB, List.eq_nil_of_length_eq_zero h1]; rfl
      have HL := fun (w' : World) (q : TRef w' (.pointer (some ⟨R, 0, none⟩)) ns) => TLen _ ns w' q
      rw [← hN] at HL
      have HT := fun (w' : World) (q : TRef w' (.pointer (some ⟨R, 0, none⟩)) ns) => TTips _ ns ok w' q
      obtain ⟨C, q0, hC1, hC2, hC3⟩ := node_any ns T.ok.nds (B : Int)
      have hB60 : B < 1048576 := by
        by_cases hk0 : 0 < k
        · have := (hgt hk0).1; omega
        · have := hBx (by omega); omega
      have HN1 := fun (w' : World) (q : TRef w' (.pointer (some ⟨R, 0, none⟩)) ns) => TNode _ ns (B : Int) (by omega) w' q
      rw [hC1] at HN1
      have hCB : ∀ y, ns[B]? = some y → C = ndc y := fun y hy => by
        rw [nodeV_in hy] at hC1
        injection hC1 with e1
        injection e1 with e1
        have := congrArg (fun a => a[0]?) e1
        simpa using this.symm
      obtain ⟨E, hE⟩ : ∃ E, E = eAll l := ⟨_, rfl⟩
      rw [htk.out, ← hE]
      obtain ⟨ok2, hok2⟩ : ∃ q, q = decide (0 < k) := ⟨_, rfl⟩
      rw [← hok2] at HB
      have tr := T.ref
      replace HL := Lib.hid HL
      replace HT := Lib.hid HT
      replace HB := Lib.hid HB
      replace HN1 := Lib.hid HN1
      replace hN := Lib.hid hN
      replace hB := Lib.hid hB
      replace hE := Lib.hid hE
      replace hok2 := Lib.hid hok2
      replace hC2 := Lib.hid hC2
      replace hC3 := Lib.hid hC3
      replace hCB := Lib.hid hCB
      replace hgt := Lib.hid hgt
      replace hBx := Lib.hid hBx
      clear hC1 hpos T
      go_upto_region 12 with (go_at_call 13; refine (HB.out _ tr).mono ?_; rintro e w4 ⟨rfl, b4⟩)
      have b04 := bw.trans (b4.mono bw.size)
      have tr4 := tr.below b4
      clear b4 tr bw
      go_upto_region 13 with (first
        | (go_at_call 14; refine (HN1.out _ tr4).mono ?_; rintro e w9 ⟨rfl, b9⟩)
        | ((with_reducible refine wpList_storeF 41 ((Below.refl w9.heap.size w9).alloc (Nat.le_refl _) _) (heap_alloc_new _ _) (Nat.le_refl _) (C) ?_ ?_ 106 ?_ ?_ ?_ ?_ ?_); rfl; rfl; exact hC2.out; kernel_rfl; exact zcN_len; exact hC3.out; intro wa a0 b0 k0 z0; clear k0; replace z0 := Lib.hid z0))
      have b8a := b9.trans (b0.mono b9.size)
      have b0a := b04.trans (b8a.mono b04.size)
      have tra := tr4.below b8a
      clear b9 b0 tr4 b04 b8a
      obtain ⟨g, hg⟩ : ∃ g, g = w9.heap.size := ⟨_, rfl⟩
      rw [← hg] at a0 ⊢
      replace hg := Lib.hid hg
      go_upto_region 14 with fail
      go_loopw [11] (fun iv wr => ∃ i : Nat, i ≤ N ∧ iv = .int .i64 (i : Int) ∧ Below wa.heap.size wa wr) (fun iv _ => N - (intOf iv).toNat)
      case atStart => exact ⟨0, by omega, rfl, Below.refl _ _⟩
      case round =>
        obtain ⟨i, hi, rfl, bi⟩ := hrel
        have bwi := b0a.trans (bi.mono b0a.size)
        have tri := tra.below bi
        have ai := a0.below bi
        by_cases hlt : i < N
        · have u1 : decide ((i : Int) < (N : Int)) = true := by simp; omega
          obtain ⟨x, hx⟩ : ∃ x, ns[i]? = some x := ⟨_, List.getElem?_eq_getElem (by rw [← hN.out]; exact hlt)⟩
          obtain ⟨h1, h2, h3⟩ := hgt.out (by omega)
          obtain ⟨y, hy⟩ : ∃ y, ns[B]? = some y := ⟨_, List.getElem?_eq_getElem (by rw [← hN.out]; exact h1)⟩
          have hle := h2 i hlt
          have hst := h3 i
          rw [tWrk_at hx, tWrk_at hy] at hle hst
          have xok := ok.nds x (List.mem_of_getElem? hx)
          have yok := ok.nds y (List.mem_of_getElem? hy)
          have x106 := Lib.hid (ndc_length xok)
          have xone := Lib.hid (List.all_eq_true.2 (ndc_one x))
          have HN2 := fun (w' : World) (q : TRef w' (.pointer (some ⟨R, 0, none⟩)) ns) => TNode _ ns (i : Int) (by omega) w' q
          rw [nodeV_in hx] at HN2
          have HC := UCmp x.wrk y.wrk xok.wrk yok.wrk
          have HQ := fun p q w => eqlUn x.wrk y.wrk p q w xok.wrk yok.wrk
          have GX : ∀ (w' : World) (g1 : Nat), Av w' g1 41 (ndc x) → w'.rangeAt g1 102 (uc x.wrk) := fun w' g1 h => by
            have := rg_work xok (Av.rangeAt (pre := []) (rest := []) (cs := ndc x) (by simpa using h) 0 rfl)
            simpa using this
          have GY : ∀ (w' : World), Av w' g 41 C → w'.rangeAt g 102 (uc y.wrk) := fun w' h => by
            rw [hCB.out y hy] at h
            have := rg_work yok (Av.rangeAt (pre := []) (rest := []) (cs := ndc y) (by simpa using h) 0 rfl)
            simpa using this
          obtain ⟨X, hX⟩ : ∃ X, X = x.wrk := ⟨_, rfl⟩
          obtain ⟨Y, hY⟩ : ∃ Y, Y = y.wrk := ⟨_, rfl⟩
          rw [← hX] at HC HQ GX hle hst
          rw [← hY] at HC HQ GY hle hst
          obtain ⟨Z, hZ⟩ : ∃ Z, Z = cmpN X Y := ⟨_, rfl⟩
          have tZ : decide ((0 : Int) < Z) = false := by rw [hZ]; exact cmpN_le hle
          rw [← hZ] at HC
          have m0 : (0 : Int) ≤ (i : Int) := by omega
          replace HC := Lib.hid HC
          replace HQ := Lib.hid HQ
          replace HN2 := Lib.hid HN2
          replace GX := Lib.hid GX
          replace GY := Lib.hid GY
          replace hZ := Lib.hid hZ
          replace hx := Lib.hid hx
          replace hy := Lib.hid hy
          replace hX := Lib.hid hX
          replace hY := Lib.hid hY
          clear h1 h2 h3 hle xok yok
          go_upto_region 17 with (first
            | (go_at_call 15; refine (HL.out _ tri).mono ?_; rintro e w6 ⟨rfl, rfl⟩)
            | (go_at_call 14; refine (HN2.out _ tri).mono ?_; rintro e w10 ⟨rfl, b10⟩)
            | ((with_reducible refine wpList_storeF 41 ((Below.refl w10.heap.size w10).alloc (Nat.le_refl _) _) (heap_alloc_new _ _) (Nat.le_refl _) (ndc x) ?_ ?_ 106 ?_ ?_ ?_ ?_ ?_); rfl; rfl; exact x106.out; kernel_rfl; exact zcN_len; exact xone.out; intro wb a1 b1 k1 z1; clear k1; replace z1 := Lib.hid z1))
          have bxa := b10.trans (b1.mono b10.size)
          have bwx := bwi.trans (bxa.mono bwi.size)
          have bix := Lib.hid (bi.trans (bxa.mono bi.size))
          have av0 := ai.below bxa
          clear ai bxa b10 b1 tri bi bwi
          obtain ⟨g1, hg1⟩ : ∃ g, g = w10.heap.size := ⟨_, rfl⟩
          rw [← hg1] at a1 ⊢
          replace hg1 := Lib.hid hg1
          have rx := Lib.hid (GX.out _ _ a1)
          have ry := Lib.hid (GY.out _ av0)
          by_cases hib : i < B
          · have t2 : decide ((i : Int) < (B : Int)) = true := by simp; omega
            have t2' : decide (i < B) = true := by simpa using hib
            have hne := hst hib
            have hqf : decide (X = Y) = false := by simp; omega
            have HQ2 := HQ.out
            rw [hqf] at HQ2
            replace HQ2 := Lib.hid HQ2
            clear hne hqf hst
            go_upto_region 15 with (first
              | ((with_reducible refine wpList_loadMF 39 (uc X) rx.out ?_ _ Tryd.underlying39 ?_ ?_ ?_); rfl; rfl; (rw [uc_len]; kernel_rfl))
              | ((with_reducible refine wpList_loadMF 39 (uc Y) ry.out ?_ _ Tryd.underlying39 ?_ ?_ ?_); rfl; rfl; (rw [uc_len]; kernel_rfl))
              | (go_at_call 16; refine (HC.out _).mono ?_; rintro e wc ⟨rfl, bc⟩; have rx2 := Lib.hid (GX.out _ _ (a1.below bc)); have ry2 := Lib.hid (GY.out _ (av0.below bc)))
              | ((with_reducible refine wpList_loadMG 39 (uc X) rx2.out ?_ ?_ _ Tryd.underlying39 ?_ ?_ ?_); rfl; rfl; rfl; (rw [uc_len]; kernel_rfl))
              | ((with_reducible refine wpList_loadMG 39 (uc Y) ry2.out ?_ ?_ _ Tryd.underlying39 ?_ ?_ ?_); rfl; rfl; rfl; (rw [uc_len]; kernel_rfl))
              | ((with_reducible refine wpList_binH (HQ2.out _ _ wc) ?_ ?_ ?_ ?_); rfl; rfl; rfl))
            have bxc := Lib.hid (bix.out.trans (bc.mono bix.out.size))
            clear bc a1 av0 bwx
            go_wp2
            refine ⟨⟨i + 1, by omega, by go_num, bxc.out⟩, ?_⟩
            simp [intOf]; omega
          · have t2 : decide ((i : Int) < (B : Int)) = false := by simp; omega
            have t2' : decide (i < B) = false := by simpa using hib
            clear hst
            go_upto_region 15 with (first
              | ((with_reducible refine wpList_loadMF 39 (uc X) rx.out ?_ _ Tryd.underlying39 ?_ ?_ ?_); rfl; rfl; (rw [uc_len]; kernel_rfl))
              | ((with_reducible refine wpList_loadMF 39 (uc Y) ry.out ?_ _ Tryd.underlying39 ?_ ?_ ?_); rfl; rfl; (rw [uc_len]; kernel_rfl))
              | (go_at_call 16; refine (HC.out _).mono ?_; rintro e wc ⟨rfl, bc⟩))
            have bxc := Lib.hid (bix.out.trans (bc.mono bix.out.size))
            clear bc a1 av0 bwx
            go_wp2
            refine ⟨⟨i + 1, by omega, by go_num, bxc.out⟩, ?_⟩
            simp [intOf]; omega
        · obtain rfl : i = N := by omega
          have u1 : decide ((i : Int) < (i : Int)) = false := by simp
          clear ai a0 tra bi
          obtain ⟨wt, hwt⟩ : ∃ wt, wt = wr := ⟨_, rfl⟩
          rw [← hwt] at tri bwi ⊢
          clear hwt
          go_upto_region 20 with (first
            | (go_at_call 15; refine (HL.out _ tri).mono ?_; rintro e w6 ⟨rfl, rfl⟩)
            | (go_at_call 21; refine (HT.out _ tri).mono ?_; rintro e wu ⟨⟨_, rfl, At, nt, ct, rfl, hlt3, rt⟩, bu⟩))
          have bwu := bwi.trans (bu.mono bwi.size)
          clear tri bwi bu
          have hnt : nt ≤ k := by
            have h1 : (mTips ns).length ≤ ns.length := by rw [mTips]; exact Nat.le_trans (List.length_filter_le _ _) (by rw [List.length_range]; exact Nat.le_refl _)
            omega
          go_upto_region 22 with fail
          go_loopw [15, 16] (fun tv jv wr => ∃ j : Nat, j ≤ nt ∧ jv = .int .i64 (j : Int) ∧ tv = .bool (((mTips ns).take j).any (· == B)) ∧ Below wu.heap.size wu wr) (fun _ jv _ => nt - (intOf jv).toNat)
          case atStart => exact ⟨0, by omega, rfl, rfl, Below.refl _ _⟩
          case round =>
            obtain ⟨j, hj, rfl, rfl, bj⟩ := hrel
            by_cases hjn : j < nt
            · have v1 : decide ((j : Int) < (nt : Int)) = true := by simp; omega
              obtain ⟨z, hz⟩ : ∃ z, (mTips ns)[j]? = some z := ⟨_, List.getElem?_eq_getElem (by rw [hlt3]; exact hjn)⟩
              have hnx := Lib.hid (any_take (mTips ns) j z B hz)
              have rtj := rt.below bj
              obtain ⟨bt, ot, rfl⟩ := rtj.someA (by
                intro h0
                have : (mTips ns).map iv = [] := h0
                rw [List.map_eq_nil_iff] at this
                rw [this] at hz
                cases hz)
              obtain ⟨bt2, ot2, hA2, hr2⟩ := rtj.resolve_left (by
                intro h0
                rw [List.map_eq_nil_iff] at h0
                rw [h0] at hz
                cases hz)
              injection hA2 with hA2
              injection hA2 with hA3 hA4
              subst hA3 hA4
              have cj : wr.cell? ⟨bt, ot + j, none⟩ = some (.int .i64 (z : Int)) := hr2 j _ (by rw [List.getElem?_map, hz]; rfl)
              have j0 : (0 : Int) ≤ (j : Int) := by omega
              have j1 : (j : Int) < (nt : Int) := by omega
              obtain ⟨F, hF⟩ : ∃ F, F = ((mTips ns).take j).any (· == B) := ⟨_, rfl⟩
              rw [← hF] at hnx ⊢
              replace hF := Lib.hid hF
              replace hz := Lib.hid hz
              clear hr2 rtj
              cases F
              · by_cases hzB : z = B
                · subst hzB
                  go_wp2
                  refine ⟨⟨j + 1, by omega, by go_num, by rw [hnx.out]; simp, bj⟩, ?_⟩
                  simp [intOf]; omega
                · have v2 : ((z : Int) == (B : Int)) = false := by simp; omega
                  go_wp2
                  refine ⟨⟨j + 1, by omega, by go_num, by rw [hnx.out]; simp [hzB], bj⟩, ?_⟩
                  simp [intOf]; omega
              · go_wp2
                refine ⟨⟨j + 1, by omega, by go_num, by rw [hnx.out]; rfl, bj⟩, ?_⟩
                simp [intOf]; omega
            · obtain rfl : j = nt := by omega
              have v1 : decide ((j : Int) < (j : Int)) = false := by simp
              obtain ⟨F, hF⟩ : ∃ F, F = ((mTips ns).take j).any (· == B) := ⟨_, rfl⟩
              have hfin : ok2 = true → E = true → F = true := fun h1 h2 => by
                have hk0 : 0 < k := by rw [hok2.out, decide_eq_true_eq] at h1; exact h1
                have := best_tip ok (by have := hN.out; omega) (by have := (hgt.out hk0).1; have := hN.out; omega) (fun x hx => eAll_mem (hE.out ▸ h2) 60 x (hns.out ▸ hx))
                rw [← hB.out] at this
                rw [hF, List.take_of_length_le (by omega), List.any_eq_true]
                exact ⟨B, this, by simp⟩
              rw [← hF]
              replace hF := Lib.hid hF
              have b0z := Lib.hid (bwu.trans (bj.mono bwu.size))
              clear bwu bj rt
              by_cases hk0 : 0 < k
              · have q1 : decide ((0 : Int) < (k : Int)) = true := by simpa using hk0
                have q1' : decide (0 < k) = true := by simpa using hk0
                obtain rfl : ok2 = true := by rw [hok2.out, q1']
                cases E
                · go_wp2
                  go_ret
                  exact ⟨rfl, b0z.out⟩
                · have hF1 := hfin rfl rfl
                  subst hF1
                  go_wp2
                  go_ret
                  exact ⟨rfl, b0z.out⟩
              · have q1 : decide ((0 : Int) < (k : Int)) = false := by simp; omega
                have q1' : decide (0 < k) = false := by simpa using hk0
                obtain rfl : ok2 = false := by rw [hok2.out, q1']
                go_wp2
                go_ret
                exact ⟨rfl, b0z.out⟩
end Go.Proofs.YtijnkieakenipaaDoor
