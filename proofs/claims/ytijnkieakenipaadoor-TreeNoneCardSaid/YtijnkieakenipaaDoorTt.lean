/- tree.Line, Tips; rows of ints. -/
import Derived.Test.YtijnkieakenipaaDoorTs
namespace Go.Proofs.YtijnkieakenipaaDoor
open Go.RowKit
attribute [local go_sem] zvN
attribute [local simp] zcN_ne
def iv (k : Nat) : Value := .int .i64 (k : Int)
theorem info_int : (Tryd.prog.info? 3).map (fun i => (i.zero, i.size, i.bytes)) = some (some (.int .i64 0), 1, 8) := by kernel_rfl
theorem info_boolT : (Tryd.prog.info? 4).map (fun i => (i.zero, i.size, i.bytes)) = some (some (.bool false), 1, 1) := by kernel_rfl
theorem size_int : (Tryd.prog.info? 3).map (·.size) = some 1 := by kernel_rfl
theorem size_boolT : (Tryd.prog.info? 4).map (·.size) = some 1 := by kernel_rfl
theorem madeCells_rep (x : Value) : ∀ n, madeCells #[x] n = (List.replicate n x).toArray := by
  intro n
  unfold madeCells
  apply Array.ext
  · simp
  · intro i h1 h2
    simp [Nat.mod_one]
theorem make_ints (n : Nat) (hn : n ≤ 2000000) (u : World) : (Instr.makeSlice 47 (.int .i64 (n : Int)) (.int .i64 (n : Int))).run Tryd.prog u = .ok (.slice (some ⟨u.heap.size, 0, none⟩) n n) (u.alloc (.cells (List.replicate n (Value.int .i64 0)).toArray 3)) := by
  obtain ⟨i0, hi, hz0, hz1, hz2⟩ := info_parts info_int
  have h := run_make (P := Tryd.prog) u 47 3 i0 (.int .i64 0) Tryd.underlying47 hi hz0 .i64 .i64 (n : Int) (n : Int) (by omega) (by omega) (by rw [hz2]; omega) (by omega)
  have e : (n : Int).toNat = n := by omega
  rw [e] at h
  simpa [hz1, Value.cells, madeCells_rep] using h
theorem make_boolsT (n : Nat) (hn : n ≤ 2000000) (u : World) : (Instr.makeSlice 57 (.int .i64 (n : Int)) (.int .i64 (n : Int))).run Tryd.prog u = .ok (.slice (some ⟨u.heap.size, 0, none⟩) n n) (u.alloc (.cells (List.replicate n (Value.bool false)).toArray 4)) := by
  obtain ⟨i0, hi, hz0, hz1, hz2⟩ := info_parts info_boolT
  have h := run_make (P := Tryd.prog) u 57 4 i0 (.bool false) Tryd.underlying57 hi hz0 .i64 .i64 (n : Int) (n : Int) (by omega) (by omega) (by rw [hz2]; omega) (by omega)
  have e : (n : Int).toNat = n := by omega
  rw [e] at h
  simpa [hz1, Value.cells, madeCells_rep] using h
/-- v is a slice that reads as these numbers -/
def IntsV (w : World) (v : Value) (l : List Nat) : Prop := ∃ A n c, v = .slice A n c ∧ l.length = n ∧ Rd w A (l.map iv)
theorem IntsV.below {w w' : World} {v : Value} {l : List Nat} (h : IntsV w v l) (b : Below w.heap.size w w') : IntsV w' v l := by
  obtain ⟨A, n, c, e, hl, r⟩ := h
  exact ⟨A, n, c, e, hl, r.below b⟩
theorem iv_one (xs : List Nat) : ∀ u ∈ xs.map iv, u.oneCell' = true := by
  intro u hu
  simp only [List.mem_map] at hu
  obtain ⟨b, _, rfl⟩ := hu
  rfl
/-- 'append(s, k)' of one number onto a row of the call's own -/
theorem wpList_appI1 {w0 w : World} {base : Nat} {v : Value} {xs : List Nat} {n : Nat} (hown : w.ownsRow base 3 1 v n (xs.map iv)) (hb : Below base w0 w) (hbase : base ≤ w.heap.size)
    (k0 : Nat) (hm : n + 1 ≤ 1000000000)
    {ops : Array Oper} {rest : List Oper} {o : Oper} {a : Act} {Q : Exit → Act → World → Prop} (hgd : o.guard = none) (s x : Operand)
    (ho : o.op = .call { callee := .builtin .append, args := #[s, x], argTypes := #[47, 47] })
    (hs : a.eval s = v) (hx : a.eval x = .slice (some ⟨w.heap.size, 0, none⟩) 1 1)
    (h : ∀ v' w', w'.ownsRow base 3 1 v' (n + 1) ((xs ++ [k0]).map iv) → Below base w0 w' → w.heap.size ≤ w'.heap.size → wpList Tryd.prog ops Q rest (a.put o.dst v') w') : wpList Tryd.prog ops Q (o :: rest) a (w.alloc (.cells #[iv k0] 3)) := by
  obtain ⟨i0, hi, hz0, hz1, hz2⟩ := info_parts info_int
  refine wpList_append_rd _ hgd s x 47 ho base 3 i0 (.int .i64 0) 1 8 Tryd.underlying47 hi hz0 hz1 hz2 rfl (by decide) v n (xs.map iv) hs (World.ownsRow.alloc hown _)
    (some ⟨w.heap.size, 0, none⟩) 1 1 [iv k0] hx rfl (Rd.one _ _ _) (by intro u hu; simp at hu; subst hu; rfl) (by simp only [maxLen]; omega) (by omega) (by simp; omega) ?_
  intro v' w' h1 h2 h3
  have hlt := fun k hk => (World.ownsRow.lt (World.ownsRow.alloc hown (.cells #[iv k0] 3)) k hk).1
  refine h v' w' (by simpa using h1) ((hb.alloc hbase _).grown h2 (by simp; omega) hlt) (by have := h2.size; simp at this; omega)
theorem ownsI_form {w : World} {base : Nat} {v : Value} {n : Nat} {xs : List Nat} (h : w.ownsRow base 3 1 v n (xs.map iv)) : IntsV w v xs := by
  have hl := h.1
  rcases h.2 with ⟨e, e0⟩ | ⟨g, cap, cur, e, hb, hg, _⟩
  · have : xs = [] := by
      subst e0
      simpa using hl
    subst this
    exact ⟨none, 0, 0, e, rfl, .inl rfl⟩
  · refine ⟨some ⟨g, 0, none⟩, n, cap, e, by simpa using hl, .inr ⟨g, 0, rfl, fun j u hu => ?_⟩⟩
    have := h.cells (g := g) (by rw [e]; rfl) j u hu
    rwa [addr_add] at this
/-- the answer of tree.Line -/
def lineL (ns : List Nd) (i : Int) : List Nat := if 0 ≤ i ∧ i < ns.length then mLine ns i.toNat else []
/-- the row so far -/
def lineC (ns : List Nd) (i q : Nat) : List Value := List.replicate (tHgt ns i + 1 - q) (.int .i64 0) ++ ((mLine ns i).drop (tHgt ns i + 1 - q)).map iv
theorem lineC_0 (ns : List Nd) (i : Nat) : lineC ns i 0 = List.replicate (tHgt ns i + 1) (.int .i64 0) := by
  unfold lineC
  rw [Nat.sub_zero, List.drop_eq_nil_of_le (by rw [mLine_length]; exact Nat.le_refl _)]
  simp
theorem lineC_end (ns : List Nd) (i : Nat) : lineC ns i (tHgt ns i + 1) = (mLine ns i).map iv := by
  unfold lineC
  rw [Nat.sub_self]
  simp
theorem lineC_len (ns : List Nd) (i q : Nat) (_ : q ≤ tHgt ns i + 1) : (lineC ns i q).length = tHgt ns i + 1 := by
  simp [lineC, mLine_length]
  done
theorem lineC_set (ns : List Nd) (i q : Nat) (h : q ≤ tHgt ns i) : (lineC ns i q).set (tHgt ns i - q) (iv (tAnc ns i q)) = lineC ns i (q + 1) := by
  unfold lineC
  have e1 : tHgt ns i + 1 - q = (tHgt ns i - q) + 1 := by omega
  have e2 : tHgt ns i + 1 - (q + 1) = tHgt ns i - q := by omega
  rw [e1, e2, List.replicate_succ', List.append_assoc, List.set_append_right _ _ (by simp)]
  simp only [List.length_replicate, Nat.sub_self, List.singleton_append, List.set_cons_zero]
  congr 1
  have h3 := mLine_at ns i (tHgt ns i - q) (by omega)
  rw [show tHgt ns i - (tHgt ns i - q) = q by omega] at h3
  have := (List.getElem?_eq_some_iff.1 h3)
  obtain ⟨h4, h5⟩ := this
  rw [List.drop_eq_getElem_cons h4, h5]
  rfl
set_option maxRecDepth 100000 in
set_option maxHeartbeats 4000000 in
theorem TLine (v : Value) (ns : List Nd) (ok : TOk ns) (i : Int) (hi : -9223372036854775808 ≤ i ∧ i ≤ 9223372036854775807) (w : World) (ht : TRef w v ns) : Calls Tryd.prog 17 #[v, .int .i64 i] w fun e w' => (∃ u, e = .returned u ∧ IntsV w' u (lineL ns i)) ∧ Below w.heap.size w w' := by
  have HN := TNode v ns i hi w ht
  obtain ⟨Z, hZ⟩ : ∃ Z, Z = lineL ns i := ⟨_, rfl⟩
  rw [← hZ]
  by_cases hin : 0 ≤ i ∧ i < ns.length
  · obtain ⟨k, rfl⟩ : ∃ k : Nat, i = (k : Int) := ⟨i.toNat, by omega⟩
    have hkl : k < ns.length := by omega
    obtain ⟨nd, hnd⟩ : ∃ nd, ns[k]? = some nd := ⟨_, List.getElem?_eq_getElem hkl⟩
    rw [nodeV_in hnd] at HN
    have hth := tHgt_at hnd
    have hZ2 : Z = mLine ns k := by rw [hZ, lineL, if_pos hin]; simp
    rcases ht with ⟨rfl, rfl⟩ | ⟨R, most, A, n, c, M, rfl, T⟩
    · simp at hkl
    · have hlen := T.len
      have hn0 : 0 < n := by omega
      obtain ⟨b, off, rfl⟩ := T.adr hn0
      have nok := T.nds nd (List.mem_of_getElem? hnd)
      have l106 := Lib.hid (ndc_length nok)
      have one2 := Lib.hid (List.all_eq_true.2 (ndc_one nd))
      obtain ⟨_, q101⟩ := ndc_at nok
      have hhs : nd.hgt < 1048576 := by
        have := ok.hgt_le hkl
        have := T.small
        omega
      obtain ⟨G, hG⟩ : ∃ G, G = nd.hgt := ⟨_, rfl⟩
      rw [← hG] at hth q101 hhs
      have MK := make_ints (G + 1) (by omega)
      have eG : (((G + 1 : Nat) : Int)) = (G : Int) + 1 := by omega
      rw [eG] at MK
      have lC := lineC_0 ns k
      rw [hth] at lC
      rw [← lC] at MK
      have lE := lineC_end ns k
      rw [hth, ← hZ2] at lE
      have hZl : Z.length = G + 1 := by rw [hZ2, mLine_length, hth]
      obtain ⟨C0, hC0⟩ : ∃ C, C = lineC ns k 0 := ⟨_, rfl⟩
      rw [← hC0] at MK
      replace HN := Lib.hid HN
      replace hG := Lib.hid hG
      replace q101 := Lib.hid q101
      replace hnd := Lib.hid hnd
      replace hlen := Lib.hid hlen
      replace hth := Lib.hid hth
      replace hZ2 := Lib.hid hZ2
      replace hC0 := Lib.hid hC0
      replace lE := Lib.hid lE
      replace lC := Lib.hid lC
      replace hZl := Lib.hid hZl
      replace MK := Lib.hid MK
      clear nok hin hi hZ eG
      go_enter Tryd.func17, Tryd.ntmps17
      go_upto_region 2 with (first
      | (go_at_call 14; refine (HN.out).mono ?_; rintro e w1 ⟨rfl, b1⟩)
      | ((with_reducible refine wpList_storeF 41 ((Below.refl w1.heap.size w1).alloc (Nat.le_refl _) _) (heap_alloc_new _ _) (Nat.le_refl _) (ndc nd) ?_ ?_ 106 ?_ ?_ ?_ ?_ ?_); rfl; rfl; exact l106.out; kernel_rfl; exact zcN_len; exact one2.out; intro w2 a2 b2 k2 z2; clear k2; replace z2 := Lib.hid z2))
      have b3 := b1.trans (b2.mono b1.size)
      have c101 := a2.cell 101 _ q101.out
      have MK2 := MK.out w2
      obtain ⟨g, hg⟩ : ∃ g, g = w2.heap.size := ⟨_, rfl⟩
      rw [← hg] at MK2
      have aG : Av (w2.alloc (.cells C0.toArray 3)) g 3 C0 := by rw [hg]; exact heap_alloc_new _ _
      have b4 : Below w.heap.size w (w2.alloc (.cells C0.toArray 3)) := b3.alloc b3.size _
      have hgw : w.heap.size ≤ g := by rw [hg]; exact b3.size
      have c101' : (w2.alloc (.cells C0.toArray 3)).cell? ⟨w1.heap.size, 101, none⟩ = some (.int .i64 (G : Int)) := (a2.alloc _).cell 101 _ q101.out
      obtain ⟨w4, hw4⟩ : ∃ w4, w4 = w2.alloc (.cells C0.toArray 3) := ⟨_, rfl⟩
      rw [← hw4] at MK2 aG b4 c101'
      replace hg := Lib.hid hg
      replace hw4 := Lib.hid hw4
      clear a2 b1 b2 b3
      go_wp2
      clear c101 c101'
      go_loopw [1, 8] (fun ix kx wr => ∃ (q : Nat) (z : Int), q ≤ G + 1 ∧ kx = .int .i64 ((G : Int) - (q : Int)) ∧ ix = .int .i64 z ∧ (q ≤ G → z = (tAnc ns k q : Nat)) ∧ Av wr g 3 (lineC ns k q) ∧ Below w.heap.size w wr) (fun _ kx _ => (intOf kx + 1).toNat)
      case atStart => exact ⟨0, (k : Int), by omega, by simp, rfl, fun _ => rfl, by rw [← hC0.out]; exact aG, b4⟩
      case round =>
        clear aG b4
        obtain ⟨q, z, hq, rfl, rfl, hz, aq, bw⟩ := hrel
        by_cases hqG : q = G + 1
        · subst hqG
          have t0 : decide ((0 : Int) ≤ (G : Int) - ((G + 1 : Nat) : Int)) = false := by simp; omega
          have t0' : ¬ ((0 : Int) ≤ (G : Int) - ((G + 1 : Nat) : Int)) := by omega
          rw [lE.out] at aq
          have aq := Lib.hid aq
          clear hz
          go_wp2
          go_ret
          exact ⟨⟨_, rfl, _, _, _, rfl, hZl.out, aq.out.rd⟩, bw⟩
        · have hz := hz (by omega)
          have hle : q ≤ tHgt ns k := by rw [hth.out]; omega
          obtain ⟨p1, p2, p3⟩ := ok.anc hkl q hle
          rw [hth.out] at p2
          have hset := lineC_set ns k q hle
          have hlc := lineC_len ns k q (by omega)
          rw [hth.out] at hset hlc
          obtain ⟨j, hj⟩ : ∃ j, j = tAnc ns k q := ⟨_, rfl⟩
          rw [← hj] at p1 p2 p3 hset hz
          subst hz
          obtain ⟨p, hp⟩ : ∃ p, p = G - q := ⟨_, rfl⟩
          have ep : (G : Int) - (q : Int) = (p : Int) := by omega
          rw [ep]
          rw [← hp] at hset
          obtain ⟨C1, hC1⟩ : ∃ C, C = lineC ns k q := ⟨_, rfl⟩
          obtain ⟨C2, hC2⟩ : ∃ C, C = lineC ns k (q + 1) := ⟨_, rfl⟩
          rw [← hC1] at aq hset hlc
          rw [← hC2] at hset
          have hpl : p < C1.length := by omega
          have t0 : decide ((0 : Int) ≤ (p : Int)) = true := by simp
          have g0 : (0 : Int) ≤ (p : Int) := by omega
          have g1 : (p : Int) < (G : Int) + 1 := by omega
          have g2 : p < G + 1 := by omega
          have hpG : p < 1048576 := by omega
          obtain ⟨x, hx⟩ : ∃ x, ns[j]? = some x := ⟨_, List.getElem?_eq_getElem p1⟩
          replace hset := Lib.hid hset
          replace hC1 := Lib.hid hC1
          replace hC2 := Lib.hid hC2
          replace hj := Lib.hid hj
          replace hx := Lib.hid hx
          replace hlc := Lib.hid hlc
          replace ep := Lib.hid ep
          replace hp := Lib.hid hp
          go_upto_region 9 with ((with_reducible refine wpList_storeI 3 aq hpl .i64 (j : Int) ?_ ?_ size_int ?_); rfl; rfl; intro w5 a5 f5)
          have hset := hset.out
          unfold iv at hset
          rw [hset] at a5
          have b5 := bw.trans (f5.below (B := w.heap.size) (fun t ht => by omega) bw.size)
          obtain ⟨r1, r2⟩ := (T.below b5).nth j x hx.out
          obtain ⟨c100, _⟩ := ndc_at r2
          have c100 := rg_cell r1 c100
          have c1 := (T.below b5).av.cell 1 _ rfl
          have m0 : (0 : Int) ≤ (j : Int) := by omega
          have m1 : (j : Int) < (n : Int) := by have := hlen.out; omega
          obtain ⟨y, hy⟩ : ∃ y, y = x.par := ⟨_, rfl⟩
          rw [← hy] at c100
          have hnx : q + 1 ≤ G → y = (tAnc ns k (q + 1) : Nat) := fun h => by
            have hj0 : j ≠ 0 := by
              intro e
              have := (ok.hgt_0 p1).2 e
              omega
            rw [hy, ok.par hx.out hj0, tAnc, ← hj.out]
          replace hnx := Lib.hid hnx
          replace hy := Lib.hid hy
          replace a5 := Lib.hid a5
          clear hset r1 r2 f5 aq p2 p3 hle
          go_wp2
          refine ⟨⟨q + 1, y, by omega, ?_, rfl, hnx.out, by rw [← hC2.out]; exact a5.out, b5⟩, ?_⟩
          · have := ep.out
            congr 1
            omega
          · simp [intOf]
  · rw [nodeV_out hin] at HN
    have hZ2 : Z = [] := by rw [hZ, lineL, if_neg hin]
    subst hZ2
    have one2 := Lib.hid zcN_one
    replace HN := Lib.hid HN
    clear hin hi hZ
    go_enter Tryd.func17, Tryd.ntmps17
    go_upto_region 2 with (first
      | (go_at_call 14; refine (HN.out).mono ?_; rintro e w1 ⟨rfl, b1⟩)
      | ((with_reducible refine wpList_storeF 41 ((Below.refl w1.heap.size w1).alloc (Nat.le_refl _) _) (heap_alloc_new _ _) (Nat.le_refl _) (ndc zeroNd) ?_ ?_ 106 ?_ ?_ ?_ ?_ ?_); rfl; rfl; exact zcN_len; kernel_rfl; exact zcN_len; exact one2.out; intro w2 a2 b2 k2 z2; clear k2; replace z2 := Lib.hid z2))
    have b3 := b1.trans (b2.mono b1.size)
    go_wp2
    go_ret
    exact ⟨⟨_, rfl, none, 0, 0, rfl, rfl, .inl rfl⟩, b3⟩
/-- a bool is stored into a cell of a block of the call's own -/
theorem wpList_storeB1 {P : Program} (ty : TypeId) {w : World} {g i : Nat} {t : TypeId} {l : List Value} (h : Av w g t l) (hi : i < l.length) (z : Bool) {ops : Array Oper} {rest : List Oper} {a : Act} {Q : Exit → Act → World → Prop} {d tp pos af} {x y : Operand}
    (hx : a.eval x = .pointer (some ⟨g, i, none⟩)) (hy : a.eval y = .bool z) (hs : (P.info? ty).map (·.size) = some 1) (k : ∀ w', Av w' g t (l.set i (.bool z)) → Fr (fun k => k = g) w w' → wpList P ops Q rest (a.put d undef) w') : wpList P ops Q (⟨d, .store ty x y, tp, pos, af, none⟩ :: rest) a w := by
  refine wpList_plain rfl fun _ hK => ?_
  have hc := h.cell i _ (List.getElem?_eq_getElem hi)
  have hf := frozen_of_row w g i _ t h
  obtain ⟨i0, hi0, hz0⟩ := Option.map_eq_some_iff.1 hs
  have hsz : ∀ w, (sizeOf ty).run P w = .ok 1 w := fun w => by simp [sizeOf, typeInfo, hi0, hz0]
  unfold Oper.wp execOp
  simp only [hx, hy]
  go_simp
  exact hK _ _ (k _ (h.set i _) (Fr.setCell w ⟨g, i, none⟩ _))
/-- which stand under one so far -/
def stoodC (ns : List Nd) (k : Nat) : List Value := (List.range ns.length).map fun (p : Nat) => Value.bool ((ns.take k).any fun n => n.par == (p : Int))
theorem stoodC_len (ns : List Nd) (k : Nat) : (stoodC ns k).length = ns.length := by simp [stoodC]
theorem stoodC_0 (ns : List Nd) : stoodC ns 0 = List.replicate ns.length (.bool false) := by
  unfold stoodC
  simp [List.map_const']
theorem stoodC_at (ns : List Nd) (k p : Nat) (h : p < ns.length) : (stoodC ns k)[p]? = some (.bool ((ns.take k).any fun n => n.par == (p : Int))) := by
  unfold stoodC
  simp [List.getElem?_range h]
theorem stoodC_set (ns : List Nd) (k p : Nat) (x : Nd) (hx : ns[k]? = some x) (hp : x.par = (p : Int)) (h : p < ns.length) : (stoodC ns k).set p (.bool true) = stoodC ns (k + 1) := by
  apply List.ext_getElem?
  intro j
  rw [List.getElem?_set]
  by_cases hj : j < ns.length
  · rw [stoodC_at _ _ _ hj, stoodC_at _ _ _ hj, List.take_add_one, hx]
    by_cases e : p = j
    · subst e
      rw [if_pos rfl, if_pos (by rw [stoodC_len]; exact h)]
      simp [hp]
    · rw [if_neg e]
      have : (x.par == (j : Int)) = false := by rw [hp]; simp; omega
      simp [this]
  · rw [List.getElem?_eq_none (by rw [stoodC_len]; omega), List.getElem?_eq_none (by rw [stoodC_len]; omega)]
    rw [if_neg (by omega)]
theorem stoodC_same (ns : List Nd) (k : Nat) (x : Nd) (hx : ns[k]? = some x) (hp : x.par < 0) : stoodC ns (k + 1) = stoodC ns k := by
  unfold stoodC
  congr 1
  funext p
  rw [List.take_add_one, hx]
  have : (x.par == (p : Int)) = false := by simp; omega
  simp [this]
theorem stoodC_end (ns : List Nd) (p : Nat) (h : p < ns.length) : (stoodC ns ns.length)[p]? = some (.bool (!mTip ns p)) := by
  rw [stoodC_at _ _ _ h, List.take_length, mTip, Bool.not_not]
set_option maxRecDepth 100000 in
set_option maxHeartbeats 4000000 in
theorem TTips (v : Value) (ns : List Nd) (ok : TOk ns) (w : World) (ht : TRef w v ns) : Calls Tryd.prog 21 #[v] w fun e w' => (∃ u, e = .returned u ∧ IntsV w' u (mTips ns)) ∧ Below w.heap.size w w' := by
  have HL := TLen v ns w ht
  by_cases h0 : ns.length = 0
  · have hn : ns = [] := List.eq_nil_of_length_eq_zero h0
    subst hn
    replace HL := Lib.hid HL
    clear h0
    go_enter Tryd.func21, Tryd.ntmps21
    go_wp2_with (go_at_call 15; refine (HL.out).mono ?_; rintro e w2 ⟨rfl, rfl⟩)
    go_ret
    exact ⟨⟨_, rfl, none, 0, 0, rfl, rfl, .inl rfl⟩, Below.refl _ _⟩
  · rcases ht with ⟨rfl, rfl⟩ | ⟨R, most, A, n, c, M, rfl, T⟩
    · simp at h0
    · have hlen := T.len
      rw [hlen] at HL h0
      have hn0 : 0 < n := by omega
      have hsm := T.small
      obtain ⟨b, off, rfl⟩ := T.adr hn0
      have t0 : ((n : Int) == 0) = false := by simp; omega
      have c1 := T.av.cell 1 _ rfl
      have MK := make_boolsT n (by omega) w
      have lC := stoodC_0 ns
      rw [hlen] at lC
      rw [← lC] at MK
      obtain ⟨C0, hC0⟩ : ∃ C, C = stoodC ns 0 := ⟨_, rfl⟩
      rw [← hC0] at MK
      obtain ⟨g, hg⟩ : ∃ g, g = w.heap.size := ⟨_, rfl⟩
      rw [← hg] at MK
      have aG : Av (w.alloc (.cells C0.toArray 4)) g 4 C0 := by rw [hg]; exact heap_alloc_new _ _
      have b4 : Below w.heap.size w (w.alloc (.cells C0.toArray 4)) := (Below.refl _ _).alloc (Nat.le_refl _) _
      have c1' := (T.below b4).av.cell 1 _ rfl
      obtain ⟨w4, hw4⟩ : ∃ w4, w4 = w.alloc (.cells C0.toArray 4) := ⟨_, rfl⟩
      rw [← hw4] at MK aG b4 c1'
      have hgw : w.heap.size ≤ g := by rw [hg]; exact Nat.le_refl _
      replace HL := Lib.hid HL
      replace hlen := Lib.hid hlen
      replace hg := Lib.hid hg
      replace hw4 := Lib.hid hw4
      replace hC0 := Lib.hid hC0
      replace lC := Lib.hid lC
      clear h0
      go_enter Tryd.func21, Tryd.ntmps21
      go_wp2_with (go_at_call 15; refine (HL.out).mono ?_; rintro e w2 ⟨rfl, rfl⟩)
      clear c1 c1' MK
      go_loopw [23] (fun kx wr => ∃ k : Nat, k ≤ n ∧ kx = .int .i64 (k : Int) ∧ Av wr g 4 (stoodC ns k) ∧ Below w.heap.size w wr) (fun kx _ => n - (intOf kx).toNat)
      case atStart => exact ⟨0, by omega, rfl, by rw [← hC0.out]; exact aG, b4⟩
      case round =>
        clear aG b4
        obtain ⟨k, hk, rfl, ag, bw⟩ := hrel
        by_cases hlt : k < n
        · have t1 : decide ((k : Int) < (n : Int)) = true := by simp; omega
          obtain ⟨x, hx⟩ : ∃ x, ns[k]? = some x := ⟨_, List.getElem?_eq_getElem (by rw [hlen.out]; exact hlt)⟩
          obtain ⟨r1, r2⟩ := (T.below bw).nth k x hx
          have q100 := (ndc_at r2).1
          have l106 := Lib.hid (ndc_length r2)
          have one2 := Lib.hid (List.all_eq_true.2 (ndc_one x))
          have m0 : (0 : Int) ≤ (k : Int) := by omega
          have m1 : (k : Int) < (n : Int) := by omega
          obtain ⟨C1, hC1⟩ : ∃ C, C = stoodC ns k := ⟨_, rfl⟩
          obtain ⟨C2, hC2⟩ : ∃ C, C = stoodC ns (k + 1) := ⟨_, rfl⟩
          have hcl : C1.length = n := by rw [hC1, stoodC_len]; exact hlen.out
          rw [← hC1] at ag
          replace r1 := Lib.hid r1
          obtain ⟨y, hy⟩ : ∃ y, y = x.par := ⟨_, rfl⟩
          rw [← hy] at q100
          replace q100 := Lib.hid q100
          by_cases hp : 0 ≤ y
          · have hk0 : k ≠ 0 := by
              rintro rfl
              have := (ok.root x hx).1
              omega
            obtain ⟨p, mm, e1, e2, _⟩ := ok.step k x hx hk0
            obtain rfl : y = (p : Int) := by rw [hy, e1]
            have hset := stoodC_set ns k p x hx e1 (by have := hlen.out; omega)
            rw [← hC1, ← hC2] at hset
            have hpl : p < C1.length := by omega
            have p0 : (0 : Int) ≤ (p : Int) := by omega
            have p1 : (p : Int) < (n : Int) := by omega
            have t2 : decide ((0 : Int) ≤ (p : Int)) = true := by simp
            replace hset := Lib.hid hset
            replace hC1 := Lib.hid hC1
            replace hC2 := Lib.hid hC2
            replace hx := Lib.hid hx
            replace hy := Lib.hid hy
            replace e1 := Lib.hid e1
            replace hcl := Lib.hid hcl
            clear r2
            go_upto_region 7 with (first
              | ((with_reducible refine wpList_loadMF 41 (ndc x) r1.out ?_ _ Tryd.underlying41 ?_ ?_ ?_); rfl; rfl; (rw [l106.out]; kernel_rfl))
              | ((with_reducible refine wpList_storeF 41 ((Below.refl wr.heap.size wr).alloc (Nat.le_refl _) _) (heap_alloc_new _ _) (Nat.le_refl _) (ndc x) ?_ ?_ 106 ?_ ?_ ?_ ?_ ?_); rfl; rfl; exact l106.out; kernel_rfl; exact zcN_len; exact one2.out; intro w2 a2 b2 k2 z2; clear k2; replace z2 := Lib.hid z2))
            have c100 := a2.cell 100 _ q100.out
            have ag2 := ag.below b2
            have b5 := bw.trans (b2.mono bw.size)
            go_upto_region 8 with fail
            go_upto_region 9 with ((with_reducible refine wpList_storeB1 4 ag2 hpl true ?_ ?_ size_boolT ?_); rfl; rfl; intro w5 a5 f5)
            rw [hset.out] at a5
            have b6 := b5.trans (f5.below (B := w.heap.size) (fun t ht => by omega) b5.size)
            replace a5 := Lib.hid a5
            clear f5 ag2 b5 a2 c100 b2 ag
            go_wp2
            refine ⟨⟨k + 1, by omega, by go_num, by rw [← hC2.out]; exact a5.out, b6⟩, ?_⟩
            simp [intOf]; omega
          · have hset := stoodC_same ns k x hx (by omega)
            rw [← hC1, ← hC2] at hset
            have t2 : decide ((0 : Int) ≤ y) = false := by simp; omega
            replace hset := Lib.hid hset
            replace hC1 := Lib.hid hC1
            replace hC2 := Lib.hid hC2
            replace hx := Lib.hid hx
            replace hy := Lib.hid hy
            replace hcl := Lib.hid hcl
            clear r2
            go_upto_region 7 with (first
              | ((with_reducible refine wpList_loadMF 41 (ndc x) r1.out ?_ _ Tryd.underlying41 ?_ ?_ ?_); rfl; rfl; (rw [l106.out]; kernel_rfl))
              | ((with_reducible refine wpList_storeF 41 ((Below.refl wr.heap.size wr).alloc (Nat.le_refl _) _) (heap_alloc_new _ _) (Nat.le_refl _) (ndc x) ?_ ?_ 106 ?_ ?_ ?_ ?_ ?_); rfl; rfl; exact l106.out; kernel_rfl; exact zcN_len; exact one2.out; intro w2 a2 b2 k2 z2; clear k2; replace z2 := Lib.hid z2))
            have c100 := a2.cell 100 _ q100.out
            have ag2 := Lib.hid (ag.below b2)
            have b5 := bw.trans (b2.mono bw.size)
            clear a2 b2 ag
            go_wp2
            refine ⟨⟨k + 1, by omega, by go_num, by rw [← hC2.out, hset.out]; exact ag2.out, b5⟩, ?_⟩
            simp [intOf]; omega
        · obtain rfl : k = n := by omega
          have t1 : decide ((k : Int) < (k : Int)) = false := by simp
          obtain ⟨C1, hC1⟩ : ∃ C, C = stoodC ns k := ⟨_, rfl⟩
          have HC : ∀ p, p < k → C1[p]? = some (.bool (!mTip ns p)) := fun p hp => by
            have := stoodC_end ns p (by rw [hlen.out]; exact hp)
            rw [hlen.out, ← hC1] at this
            exact this
          rw [← hC1] at ag
          have ow0 : wr.ownsRow wr.heap.size 3 1 (.slice none 0 0) 0 ([].map iv) := World.ownsRow_nil _ _ _ _
          replace HC := Lib.hid HC
          replace hC1 := Lib.hid hC1
          obtain ⟨ws, hws⟩ : ∃ ws, ws = wr := ⟨_, rfl⟩
          rw [← hws] at ag bw ow0 ⊢
          clear hws
          have hts : mTips ns = (List.range k).filter (mTip ns) := by rw [mTips, hlen.out]
          replace hts := Lib.hid hts
          go_wp2
          go_loopw [6, 37] (fun lv kx wq => ∃ j : Nat, j ≤ k ∧ kx = .int .i64 (j : Int) ∧ wq.ownsRow ws.heap.size 3 1 lv ((List.range j).filter (mTip ns)).length (((List.range j).filter (mTip ns)).map iv) ∧ Below ws.heap.size ws wq) (fun _ kx _ => k - (intOf kx).toNat)
          case atStart => exact ⟨0, by omega, rfl, ow0, Below.refl _ _⟩
          case round =>
            clear ow0
            obtain ⟨j, hj, rfl, ow, bq⟩ := hrel
            by_cases hjl : j < k
            · have u1 : decide ((j : Int) < (k : Int)) = true := by simp; omega
              have cg := (ag.below bq).cell j _ (HC.out j hjl)
              have j0 : (0 : Int) ≤ (j : Int) := by omega
              have j1 : (j : Int) < (k : Int) := by omega
              obtain ⟨L, hL⟩ : ∃ L, L = (List.range j).filter (mTip ns) := ⟨_, rfl⟩
              obtain ⟨L2, hL2⟩ : ∃ L, L = (List.range (j + 1)).filter (mTip ns) := ⟨_, rfl⟩
              have hLn : L2 = if mTip ns j = true then L ++ [j] else L := by
                rw [hL2, List.range_succ, List.filter_append, ← hL, List.filter_cons, List.filter_nil]
                cases mTip ns j <;> simp
              have hLl : L.length ≤ j := by rw [hL]; exact Nat.le_trans (List.length_filter_le _ _) (by simp)
              rw [← hL] at ow
              obtain ⟨s, hs⟩ : ∃ s, s = mTip ns j := ⟨_, rfl⟩
              rw [← hs] at cg hLn
              obtain ⟨N, hN⟩ : ∃ N, N = L.length := ⟨_, rfl⟩
              rw [← hN] at ow hLl
              replace hL := Lib.hid hL
              replace hL2 := Lib.hid hL2
              replace hs := Lib.hid hs
              replace hN := Lib.hid hN
              cases s with
              | true =>
                rw [if_pos rfl] at hLn
                replace hLn := Lib.hid hLn
                rw [Bool.not_true] at cg
                go_upto_region 14 with fail
                clear cg
                go_upto_region 16 with (at_builtin; refine wpList_appI1 ow bq bq.size j (by omega) rfl (.tmp 44) (.tmp 46) rfl rfl rfl ?_; intro v5 w5 ow5 bw5 _)
                replace ow5 := Lib.hid ow5
                replace bw5 := Lib.hid bw5
                clear ow bq
                go_wp2
                refine ⟨⟨j + 1, by omega, by go_num, ?_, bw5.out⟩, ?_⟩
                · rw [← hL2.out, hLn.out, List.length_append, ← hN.out]; exact ow5.out
                · simp [intOf]; omega
              | false =>
                rw [if_neg (by simp)] at hLn
                replace hLn := Lib.hid hLn
                rw [Bool.not_false] at cg
                replace ow := Lib.hid ow
                go_wp2
                refine ⟨⟨j + 1, by omega, by go_num, ?_, bq⟩, ?_⟩
                · rw [← hL2.out, hLn.out, ← hN.out]; exact ow.out
                · simp [intOf]; omega
            · obtain rfl : j = k := by omega
              have u1 : decide ((j : Int) < (j : Int)) = false := by simp
              have iw := ownsI_form ow
              rw [← hts.out] at iw
              replace iw := Lib.hid iw
              clear ow
              go_wp2
              go_ret
              exact ⟨⟨_, rfl, iw.out⟩, bw.trans (bq.mono bw.size)⟩
end Go.Proofs.YtijnkieakenipaaDoor
