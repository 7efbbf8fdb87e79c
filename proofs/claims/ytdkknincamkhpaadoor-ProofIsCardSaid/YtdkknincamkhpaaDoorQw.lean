/- proof.Steps. -/
import Derived.Test.YtdkknincamkhpaaDoorPr20
import Derived.OrdersHeld
import Derived.Deep.CutRange
namespace Go.Proofs.YtdkknincamkhpaaDoor
open Go.RowKit
attribute [local go_sem high] slB_lh slB_l slB_h
theorem size_u8q : (Tryd.prog.info? 5).map (·.size) = some 1 := by kernel_rfl
theorem infoLu : (Tryd.prog.info? 24).map (fun i => (i.size, i.bytes)) = some (1, 24) := by kernel_rfl
theorem zeroLu : (Tryd.prog.info? 24).map (fun i => (i.zero.map (·.cells.size))) = some (some 1) := by kernel_rfl
/-- texts of 64 bytes, each in a block of its own -/
def StAt (w : World) (gs : List Nat) (ts : List (List UInt8)) : Prop := gs.length = ts.length ∧ ∀ (j g : Nat) (t : List UInt8), gs[j]? = some g → ts[j]? = some t → Av w g 5 (t.map bv)
def slc (gs : List Nat) : List Value := gs.map fun g => .slice (some ⟨g, 0, none⟩) 64 64
theorem slc_snoc (gs : List Nat) (g : Nat) : slc (gs ++ [g]) = slc gs ++ [.slice (some ⟨g, 0, none⟩) 64 64] := by simp [slc]
theorem slc_get {gs : List Nat} {j g : Nat} (h : gs[j]? = some g) : (slc gs)[j]? = some (.slice (some ⟨g, 0, none⟩) 64 64) := by
  rw [slc, List.getElem?_map, h]
  rfl
theorem StAt.keep {w w' : World} {gs : List Nat} {ts : List (List UInt8)} (h : StAt w gs ts) (hk : ∀ g t, Av w g 5 (t : List Value) → Av w' g 5 t) : StAt w' gs ts := ⟨h.1, fun j g t hg ht => hk _ _ (h.2 j g t hg ht)⟩
theorem StAt.below {w w' : World} {gs : List Nat} {ts : List (List UInt8)} (h : StAt w gs ts) (b : Below w.heap.size w w') : StAt w' gs ts := h.keep fun _ _ a => a.below b
theorem StAt.store {w w' : World} {gs : List Nat} {ts : List (List UInt8)} {G : Nat} {t : TypeId} {l : List Value} (h : StAt w gs ts) (f : Fr (fun j => j = G) w w') (ha : Av w G t l) (ht : t ≠ 5) : StAt w' gs ts := h.keep fun _ _ a => f.av a (Ne.symm (Av.ne ha a ht))
theorem StAt.new {w w' : World} {gs : List Nat} {ts : List (List UInt8)} {G B : Nat} (h : StAt w gs ts) (f : Fr (fun j => j = G) w w') (hB : ∀ g t, Av w g 5 (t : List Value) → g ∈ gs → g ≠ G) : StAt w' gs ts := by
  refine ⟨h.1, fun j g t hg ht => ?_⟩
  have ha := h.2 j g t hg ht
  have _ := B
  exact f.av ha (hB g _ ha (List.mem_of_getElem? hg))
theorem StAt.grown {w w' : World} {gs : List Nat} {ts : List (List UInt8)} {base : Nat} {e : TypeId} {size n : Nat} {v : Value} {xs : List Value} (h : StAt w gs ts) (ho : w.ownsRow base e size v n xs) (he : e ≠ 5) (gr : w.grownBy w' v.ownBlock) : StAt w' gs ts :=
  h.keep fun _ _ a => (Fr.of_grown gr).av a (fun q => own_ne ho a he q.symm)
theorem StAt.snoc {w : World} {gs : List Nat} {ts : List (List UInt8)} {g : Nat} {t : List UInt8} (h : StAt w gs ts) (ha : Av w g 5 (t.map bv)) : StAt w (gs ++ [g]) (ts ++ [t]) := by
  refine ⟨by rw [List.length_append, List.length_append, h.1]; rfl, fun j g' t' hg ht => ?_⟩
  rcases Nat.lt_or_ge j gs.length with hi | hi
  · rw [List.getElem?_append_left hi] at hg
    rw [List.getElem?_append_left (by rw [← h.1]; exact hi)] at ht
    exact h.2 j g' t' hg ht
  · rw [List.getElem?_append_right hi] at hg
    rw [List.getElem?_append_right (by rw [← h.1]; exact hi)] at ht
    rw [← h.1] at ht
    cases hk : j - gs.length with
    | zero =>
      rw [hk] at hg ht
      obtain rfl : g = g' := by simpa using hg
      obtain rfl : t = t' := by simpa using ht
      exact ha
    | succ k => rw [hk] at hg; simp at hg
theorem wpList_copyQ {P : Program} {w : World} {g : Nat} {t : TypeId} {l : List Value} (h : Av w g t l) {dT sT : TypeId} (elem : TypeId) (hu : P.underlying dT = some (.slice elem)) (hs : (P.info? elem).map (·.size) = some 1) (off dLen dCap : Nat) (A : Option Addr) (m c : Nat) (xs : List Value)
    (hr : Rd w A xs) (hl : xs.length = min m dLen) (hfit : off + xs.length ≤ l.length) (h1 : ∀ v ∈ xs, v.oneCell' = true) {ops : Array Oper} {rest : List Oper} {a : Act} {Q : Exit → Act → World → Prop} {d tp pos af} {x y : Operand}
    (hx : a.eval x = .slice (some ⟨g, off, none⟩) dLen dCap) (hy : a.eval y = .slice A m c)
    (k : ∀ w', Av w' g t (l.take off ++ xs ++ l.drop (off + xs.length)) → Fr (fun k => k = g) w w' → wpList P ops Q rest (a.put d (goInt xs.length)) w') :
    wpList P ops Q (⟨d, .call { callee := .builtin .copy, args := #[x, y], argTypes := #[dT, sT] }, tp, pos, af, none⟩ :: rest) a w := by
  obtain ⟨w', hrun, h2, h3, _⟩ := exec_copyAv h dT sT elem hu hs off dLen dCap A m c xs hr hl hfit h1 ⟨d, .call { callee := .builtin .copy, args := #[x, y], argTypes := #[dT, sT] }, tp, pos, af, none⟩ x y rfl hx hy
  exact wpList_execW rfl hrun (k w' h2 h3)
theorem made_full (N : Nat) (k : Int) (hk : k = N) (hN : N ≤ 140737488355328) : ∃ cs : List Value, cs.length = N ∧ ∀ u : World,
    (Instr.makeSlice 24 (.int .i64 k) (.int .i64 k)).run Tryd.prog u = .ok (.slice (some ⟨u.heap.size, 0, none⟩) N N) (u.alloc (.cells cs.toArray 5)) := by
  subst hk
  obtain ⟨i0, hi, hz0, hz1, hz2⟩ := info_parts info_u8
  refine ⟨(madeCells #[.int .u8 0] N).toList, by simp [size_madeCells], fun u => ?_⟩
  have h := run_make (P := Tryd.prog) u 24 5 i0 (.int .u8 0) Tryd.underlying24 hi hz0 .i64 .i64 (N : Int) (N : Int) (by omega) (by omega) (by rw [hz2]; omega) (by omega)
  rw [Int.toNat_natCast] at h
  simpa [hz1, Value.cells] using h
theorem wpOp_runW {P : Program} {ops : Array Oper} {Q : Exit → Act → World → Prop} {i : Nat} {K : Act → World → Prop} {a : Act} {w w' : World} {o : Oper} {v : Value} (ho : ops[i]? = some o) (hg : o.guard = none) (D : Option Tmp) (hD : o.dst = D) (h : (execOp a.eval o).run P w = .ok (.value v) w') (k : K (a.put D v) w') : wpOp P ops Q i K a w := by
  refine wpOp_wp ho hg ?_
  unfold Oper.wp
  rw [h]
  subst hD
  exact k
theorem wpAnyH_takeD {P : Program} {ops : Array Oper} {Q : Exit → Act → World → Prop} {md : Region.Mode} {S : World → Prop} {i : Nat} {oi : Oper} {v : Value} {fuel : Nat} {listed : Array Bool} {a : Act} {w : World} (D : Option Tmp) (hi : ops[i]? = some oi) (hD : oi.dst = D)
    (hs : Region.noSelect ops = true) (hf : Region.free md ops listed i = true) (hr : (Region.ready md ops listed).contains i = true)
    (hQ : ∀ c a w, Q (.panic c) (a.put D v) w → Q (.panic c) a w) (hy : YieldsIf P ops S oi v a) (hS : S w)
    (h : wpAnyH P md ops Q S fuel (listed.setIfInBounds i true) (a.put D v) w) : wpAnyH P md ops Q S (fuel + 1) listed a w := by
  subst hD
  exact wpAnyH_take hi hs hf hr hQ hy hS h
theorem wpOp_storeAv {P : Program} {ops : Array Oper} {Q : Exit → Act → World → Prop} {i : Nat} {K : Act → World → Prop} {a : Act} {w : World} {o : Oper} {g : Nat} {t : TypeId} {old C : List Value} (h : Av w g t old) (hold : old.length = C.length) (hi0 : ops[i]? = some o) (hg : o.guard = none) (ty : TypeId) (x y : Operand) (ho : o.op = .store ty x y) (hx : a.eval x = .pointer (some ⟨g, 0, none⟩)) (hy : a.eval y = .agg C.toArray) (hd : o.dst = none) (n : Nat) (hn : C.length = n)
    (hi : (P.info? ty).map (·.size) = some n) (h1 : C.all (·.oneCell') = true) (k : ∀ w', Av w' g t C → Fr (fun j => j = g) w w' → K a w') : wpOp P ops Q i K a w := by
  obtain ⟨w', hr, h2, h3⟩ := exec_storeAv h hold (RS.refl w) ty x y ho hx hy n hn hi h1 0
  refine wpOp_wp hi0 hg ?_
  unfold Oper.wp
  rw [hr, Oper.upon_skip, hd]
  exact k w' (h3 _ (List.mem_singleton.2 rfl) rfl) h2.1
theorem exec_allocH {ρ : Operand → Value} {w : World} (o : Oper) (ho : o.op = .alloc 28) : (execOp ρ o).run Tryd.prog w = .ok (.value (.pointer (some ⟨w.heap.size, 0, none⟩))) (w.alloc (.cells (zs32.map bv).toArray 28)) := by
  have hz := zeros_32
  rw [show List.replicate 32 (0 : UInt8) = zs32 from rfl] at hz
  unfold execOp
  simp only [ho]
  go_simp
/-- two new hashes -/
def TwoAt (w0 : World) (l r : List UInt8) (a b : Value) (w : World) : Prop := ∃ g q : Nat, a = .pointer (some ⟨g, 0, none⟩) ∧ b = .pointer (some ⟨q, 0, none⟩) ∧ g ≠ q ∧ w0.heap.size ≤ g ∧ w0.heap.size ≤ q ∧ Av w g 28 (l.map bv) ∧ Av w q 28 (r.map bv) ∧ Below w0.heap.size w0 w
theorem StAt.lt {w : World} {gs : List Nat} {ts : List (List UInt8)} (h : StAt w gs ts) : ∀ g ∈ gs, g < w.heap.size := by
  intro g hg
  obtain ⟨j, hj⟩ := List.mem_iff_getElem?.1 hg
  have hl := (List.getElem?_eq_some_iff.1 hj).1
  exact (h.2 j g _ hj (List.getElem?_eq_getElem (by rw [← h.1]; exact hl))).lt
/-- what Steps answers -/
def StepsPost (w0 : World) (ts : List (List UInt8)) (e : Ending) (w' : World) : Prop :=
  Below w0.heap.size w0 w' ∧ ∃ A c gs, e = .returned (.slice A ts.length c) ∧ ts.length ≤ c ∧ (∀ a, A = some a → w0.heap.size ≤ a.block) ∧ (∀ g ∈ gs, w0.heap.size ≤ g) ∧ Rd w' A (slc gs) ∧ StAt w' gs ts
theorem copied64 (l r : List UInt8) (hl : l.length = 32) (hr : r.length = 32) (m : List Value) (hm : m.length = 64) :
    let s := m.take 0 ++ l.map bv ++ m.drop (0 + (l.map bv).length)
    s.length = 64 ∧ s.take 32 ++ r.map bv ++ s.drop (32 + (r.map bv).length) = (l ++ r).map bv := by
  have e1 : (l.map bv).length = 32 := by rw [List.length_map, hl]
  have e2 : (r.map bv).length = 32 := by rw [List.length_map, hr]
  dsimp only
  rw [List.take_zero, List.nil_append, e1, e2]
  refine ⟨by rw [List.length_append, e1, List.length_drop, hm], ?_⟩
  rw [List.take_append_of_le_length (by omega), List.take_of_length_le (by omega), List.drop_of_length_le (by rw [List.length_append, e1, List.length_drop, hm]; exact Nat.le_refl _), List.append_nil, List.map_append]
set_option maxRecDepth 100000 in
set_option maxHeartbeats 16000000 in
theorem PSteps (x : List UInt8) (hx32 : x.length = 32) (p : List (List UInt8)) (h32 : All32 p) (ki : Int) (k : Nat) (m1 : max ki 0 = (k : Int)) (hk : k < 9223372036854775808) (A : Option Addr) (n c : Nat) (hn : p.length = n) (hn2 : n ≤ 1000) (w : World) (hr : Rd w A (hcl p)) (hT : Tabs w) :
    Calls Tryd.prog 20 #[.agg (hcs x), .slice A n c, .int .i64 ki] w (StepsPost w (qSt x p k)) := by
  have hz := zeros_32
  rw [show List.replicate 32 (0 : UInt8) = zs32 from rfl] at hz
  obtain ⟨mk, hmk, hmks⟩ := made_full 64 64 rfl (by omega)
  obtain ⟨R, hR⟩ : ∃ R, R = qSt x p k := ⟨_, rfl⟩
  have hRl : R.length = n := by rw [hR, qSt_length, hn]
  rw [← hR]
  replace hmk := Lib.hid hmk
  replace hR := Lib.hid hR
  replace hRl := Lib.hid hRl
  replace hn := Lib.hid hn
  have hcase : (decide (ki < 0) = false ∧ ki = (k : Int)) ∨ (decide (ki < 0) = true ∧ k = 0 ∧ ki < 0) := by
    by_cases h : ki < 0
    · exact .inr ⟨by simp [h], by omega, h⟩
    · exact .inl ⟨by simp [h], by omega⟩
  have b0 : Below w.heap.size w (w.alloc (.cells (x.map bv).toArray 28)) := (Below.refl _ _).alloc (Nat.le_refl _) _
  have a0 : Av (w.alloc (.cells (x.map bv).toArray 28)) w.heap.size 28 (x.map bv) := heap_alloc_new _ _
  rcases hcase with ⟨m2, rfl⟩ | ⟨m2, hk0, hneg⟩ <;>
  · try replace hk0 := Lib.hid hk0
    go_enter Tryd.func20, Tryd.ntmps20
    go_wp2
    all_goals try (exfalso; omega)
    generalize w.alloc (.cells (x.map bv).toArray 28) = w0 at *
    go_loopw [2, 7, 9, 10, 11, 12, 17] (fun i out _ _ _ _ s wr => ∃ (j i' : Nat) (y : List UInt8) (gs : List Nat), j ≤ n ∧ s = .int .i64 (j : Int) ∧ i = .int .i64 (i' : Int) ∧ i' ≤ k ∧ y.length = 32 ∧ Hid (qSt y (p.drop j) i' = R.drop j) ∧ (∀ g ∈ gs, w.heap.size ≤ g) ∧ Below w.heap.size w wr ∧ Av wr w.heap.size 28 (y.map bv) ∧ wr.ownsRow w.heap.size 24 1 out j (slc gs) ∧ StAt wr gs (R.take j)) (fun _ _ _ _ _ _ s _ => n - (intOf s).toNat)
    case atStart => exact ⟨0, k, x, [], by omega, rfl, by first | rfl | (rw [hk0.out]; rfl), Nat.le_refl _, hx32, Lib.hid (by rw [hR.out]; rfl), by (intro g hg; cases hg), b0, a0, World.ownsRow_nil _ _ _ _, ⟨by rw [List.take_zero]; rfl, fun j g t hg => by cases hg⟩⟩
    case round =>
      clear a0 b0 m1 m2
      try clear hneg
      try clear hk0
      obtain ⟨j, i', y, gs, hj, rfl, rfl, hi, hy32, hcl0, hgw, hb, ha, hown, hst⟩ := hrel
      replace hgw := Lib.hid hgw
      by_cases hlt : j < n
      · have t1 : decide ((j : Int) < (n : Int)) = true := by simp; omega
        obtain ⟨bb, off, rfl⟩ := hr.someA (hcl_ne h32 (by rw [hn.out]; omega))
        obtain ⟨o, ho⟩ : ∃ o, o = p.getD j [] := ⟨_, rfl⟩
        have ho32 : o.length = 32 := by rw [ho]; exact h32.get _ (by rw [hn.out]; omega)
        have hdr : p.drop j = o :: p.drop (j + 1) := by
          rw [List.drop_eq_getElem_cons (by rw [hn.out]; omega), ho, List.getD_eq_getElem?_getD, List.getElem?_eq_getElem (by rw [hn.out]; omega)]
          rfl
        have hcl := hcl0.out
        rw [hdr, qSt] at hcl
        obtain ⟨tx, htx⟩ : ∃ tx, R[j]? = some tx := ⟨_, List.getElem?_eq_getElem (by rw [hRl.out]; omega)⟩
        obtain ⟨hjR, htx0⟩ := List.getElem?_eq_some_iff.1 htx
        rw [List.drop_eq_getElem_cons hjR, htx0] at hcl
        have htk : R.take (j + 1) = R.take j ++ [tx] := by rw [List.take_add_one, htx]; rfl
        obtain ⟨i2, hi2⟩ : ∃ i2, i2 = i' / 2 := ⟨_, rfl⟩
        have d1 : (i' : Int) / 2 = (i2 : Int) := by omega
        have hpar : ∃ l1 r1, ((i' % 2 = 1 ∧ l1 = o ∧ r1 = y) ∨ (i' % 2 ≠ 1 ∧ l1 = y ∧ r1 = o)) ∧ tx = l1 ++ r1 ∧ qSt (pairB l1 r1) (p.drop (j + 1)) i2 = R.drop (j + 1) := by
          rw [hi2]
          by_cases hodd : i' % 2 = 1
          · rw [if_pos hodd] at hcl
            injection hcl with q1 q2
            exact ⟨o, y, .inl ⟨hodd, rfl, rfl⟩, q1.symm, q2⟩
          · rw [if_neg hodd] at hcl
            injection hcl with q1 q2
            exact ⟨y, o, .inr ⟨hodd, rfl, rfl⟩, q1.symm, q2⟩
        obtain ⟨l1, r1, hpar, htx2, hrest⟩ := hpar
        have hl1 : l1.length = 32 := by rcases hpar with ⟨_, e, _⟩ | ⟨_, e, _⟩ <;> rw [e] <;> assumption
        have hr1 : r1.length = 32 := by rcases hpar with ⟨_, _, e⟩ | ⟨_, _, e⟩ <;> rw [e] <;> assumption
        have tx64 : tx.length = 64 := by rw [htx2, List.length_append, hl1, hr1]
        obtain ⟨z, hzz⟩ : ∃ z, z = pairB l1 r1 := ⟨_, rfl⟩
        have hz32 : z.length = 32 := by rw [hzz]; exact pairB_length _ _
        rw [← hzz] at hrest
        have hzd : z = dblB tx := by rw [hzz, htx2, pairB]
        have HD := fun G w' r t => Double tx (some ⟨G, 0, none⟩) 64 64 tx64 (Nat.le_refl _) (by omega) w' r t
        rw [← hzd] at HD
        have hro := ho ▸ (hr.below hb).hash h32 j (by rw [hn.out]; omega)
        have n0 : 0 ≤ (j : Int) := by omega
        have n1 : (j : Int) < (n : Int) := by omega
        have yv32 : (y.map bv).length = 32 := by rw [List.length_map, hy32]
        have ov32 : (o.map bv).length = 32 := by rw [List.length_map, ho32]
        have zv32 : (z.map bv).length = 32 := by rw [List.length_map, hz32]
        have yone : (y.map bv).all (·.oneCell') = true := List.all_eq_true.2 (bv_one y)
        have oone : (o.map bv).all (·.oneCell') = true := List.all_eq_true.2 (bv_one o)
        have zone : (z.map bv).all (·.oneCell') = true := List.all_eq_true.2 (bv_one z)
        replace hrest := Lib.hid hrest
        replace hzz := Lib.hid hzz
        replace hzd := Lib.hid hzd
        replace HD := Lib.hid HD
        replace htx2 := Lib.hid htx2
        replace htx := Lib.hid htx
        replace htx0 := Lib.hid htx0
        replace htk := Lib.hid htk
        replace hpar := Lib.hid hpar
        replace hl1 := Lib.hid hl1
        replace hr1 := Lib.hid hr1
        replace tx64 := Lib.hid tx64
        replace hz32 := Lib.hid hz32
        replace hy32 := Lib.hid hy32
        replace ho32 := Lib.hid ho32
        replace yv32 := Lib.hid yv32
        replace ov32 := Lib.hid ov32
        replace zv32 := Lib.hid zv32
        replace yone := Lib.hid yone
        replace oone := Lib.hid oone
        replace zone := Lib.hid zone
        replace hi2 := Lib.hid hi2
        clear hcl hcl0 ho hdr
        go_upto_region 6 with (first
          | (refine wpList_load_mid rfl _ _ rfl bb (off + j * 32) rfl (o.map bv) _ hro Tryd.underlying28 rfl (by rw [ov32.out]; kernel_rfl) ?_)
          | ((with_reducible refine wpList_storeF 28 ((Below.refl wr.heap.size wr).alloc (Nat.le_refl _) _) (heap_alloc_new _ _) (Nat.le_refl _) (o.map bv) ?_ ?_ 32 ov32.out ?_ ?_ ?_ ?_); rfl; rfl; kernel_rfl; rfl; exact oone.out; intro w3 a93 b3 k3 z3))
        obtain ⟨G9, hG9⟩ : ∃ G9, G9 = wr.heap.size := ⟨_, rfl⟩
        rw [← hG9] at a93 ⊢
        have aX3 := ha.below b3
        have own3 := own_below hown b3
        have st3 := hst.below b3
        have bw3 := hb.trans (b3.mono hb.size)
        replace hG9 := Lib.hid hG9
        clear ha hown hst hb b3 k3 z3 hro
        dsimp only [Act.put]
        go_cut [10, 11] from 18 to 44 (fun a b wc => TwoAt w3 y o a b wc)
        case first =>
          rename_i J1 K1 hJ1 hK1
          refine wp_region_held (S := fun w' => Av w' w.heap.size 28 (y.map bv) ∧ Av w' G9 28 (o.map bv)) (by kernel_rfl) ?_
          refine wpAnyH_takeD (i := 0) (v := .agg (hcs y)) (some 21) rfl rfl (by kernel_rfl) (by kernel_rfl) (by kernel_rfl) (fun _ _ _ h => h) (Or.inl ⟨by rfl, fun w' hS => exec_loadAv hS.1 _ _ rfl rfl _ 32 yv32.out Tryd.underlying28 rfl (by kernel_rfl)⟩) ⟨aX3.drew, a93.drew⟩ ?_
          refine wpAnyH_takeD (i := 1) (v := .agg (hcs o)) (some 22) rfl rfl (by kernel_rfl) (by kernel_rfl) (by kernel_rfl) (fun _ _ _ h => h) (Or.inl ⟨by rfl, fun w' hS => exec_loadAv hS.2 _ _ rfl rfl _ 32 ov32.out Tryd.underlying28 rfl (by kernel_rfl)⟩) ⟨aX3.drew, a93.drew⟩ ?_
          have aX4 := aX3.drew
          have a94 := a93.drew
          have aX3lt := aX3.lt
          have a93lt := a93.lt
          have b4 : Below w3.heap.size w3 w3.drew := ⟨rfl, rfl, rfl, Nat.le_refl _, fun _ _ => rfl⟩
          change wpAnyH _ _ _ _ _ _ _ _ w3.drew
          generalize w3.drew = w4 at *
          simp only [List.set_cons_succ, List.set_cons_zero, Act.put, List.setIfInBounds_toArray]
          refine wpAnyH_all (rs := [2, 3]) (by kernel_rfl) (by simp) ?_
          intro i hi
          simp only [List.mem_cons, List.not_mem_nil, or_false] at hi
          rcases hi with rfl | rfl
          · refine wpOp_runW rfl rfl (some 10) rfl (exec_allocH _ rfl) ⟨⟨aX4.alloc _, a94.alloc _⟩, ?_⟩
            refine wpAnyH_all (rs := [3]) (by kernel_rfl) (by simp) ?_
            intro i hi
            obtain rfl := List.mem_singleton.1 hi
            refine wpOp_runW rfl rfl (some 11) rfl (exec_allocH _ rfl) ⟨⟨(aX4.alloc _).alloc _, (a94.alloc _).alloc _⟩, ?_⟩
            have d1 : Av ((w4.alloc (.cells (zs32.map bv).toArray 28)).alloc (.cells (zs32.map bv).toArray 28)) w4.heap.size 28 (zs32.map bv) := Av.newer _ _ _ _
            have d2 : Av ((w4.alloc (.cells (zs32.map bv).toArray 28)).alloc (.cells (zs32.map bv).toArray 28)) (w4.heap.size + 1) 28 (zs32.map bv) := heap_alloc2_new _ _ _
            have e2 : (w4.alloc (.cells (zs32.map bv).toArray 28)).heap.size = w4.heap.size + 1 := World.size_alloc _ _
            have bA : Below w3.heap.size w3 ((w4.alloc (.cells (zs32.map bv).toArray 28)).alloc (.cells (zs32.map bv).toArray 28)) := (b4.alloc b4.size _).alloc (by rw [e2]; have := b4.size; omega) _
            have aX5 := (aX4.alloc (.cells (zs32.map bv).toArray 28)).alloc (.cells (zs32.map bv).toArray 28)
            have a95 := (a94.alloc (.cells (zs32.map bv).toArray 28)).alloc (.cells (zs32.map bv).toArray 28)
            rw [e2]
            generalize (w4.alloc (.cells (zs32.map bv).toArray 28)).alloc (.cells (zs32.map bv).toArray 28) = w5 at *
            obtain ⟨g, hg⟩ : ∃ g, g = w4.heap.size := ⟨_, rfl⟩
            obtain ⟨q, hq⟩ : ∃ q, q = w4.heap.size + 1 := ⟨_, rfl⟩
            have ng : g ≠ q := by omega
            have hgw : w3.heap.size ≤ g := by have := b4.size; omega
            have hqw : w3.heap.size ≤ q := by have := b4.size; omega
            rw [← hg] at d1
            rw [← hq] at d2
            have c1 := d1
            have c2 := d2
            rw [← hq, ← hg]
            have ngX : g ≠ w.heap.size := by have := aX3lt; omega
            have ngG : g ≠ G9 := by have := a93lt; omega
            have nqX : q ≠ w.heap.size := by have := aX3lt; omega
            have nqG : q ≠ G9 := by have := a93lt; omega
            clear d1 d2 hg hq
            refine wpAnyH_all (rs := [4]) (by kernel_rfl) (by simp) ?_
            intro i hi
            obtain rfl := List.mem_singleton.1 hi
            refine wpOp_storeAv c1 (C := y.map bv) (by rw [yv32.out]; rfl) rfl rfl _ _ _ rfl rfl rfl rfl 32 yv32.out (by kernel_rfl) yone.out ?_
            intro w6 c16 f6
            have c26 := f6.av c2 (Ne.symm ng)
            have aX6 := f6.av aX5 (Ne.symm ngX)
            have a96 := f6.av a95 (Ne.symm ngG)
            have b6 := bA.trans (f6.below (fun j e => by omega) bA.size)
            refine ⟨⟨aX6, a96⟩, ?_⟩
            refine wpAnyH_all (rs := [5]) (by kernel_rfl) (by simp) ?_
            intro i hi
            obtain rfl := List.mem_singleton.1 hi
            refine wpOp_storeAv c26 (C := o.map bv) (by rw [ov32.out]; rfl) rfl rfl _ _ _ rfl rfl rfl rfl 32 ov32.out (by kernel_rfl) oone.out ?_
            intro w7 c27 f7
            have c17 := f7.av c16 ng
            have b7 := b6.trans (f7.below (fun j e => by omega) b6.size)
            refine ⟨⟨f7.av aX6 (Ne.symm nqX), f7.av a96 (Ne.symm nqG)⟩, ?_⟩
            refine wpAnyH_done (by kernel_rfl) ?_ _
            simp only [List.set_cons_succ, List.set_cons_zero, Act.put, List.setIfInBounds_toArray]
            refine hK1 _ _ ?_
            go_meet
            exact ⟨g, q, rfl, rfl, ng, hgw, hqw, c17, c27, b7⟩
          · refine wpOp_runW rfl rfl (some 11) rfl (exec_allocH _ rfl) ⟨⟨aX4.alloc _, a94.alloc _⟩, ?_⟩
            refine wpAnyH_all (rs := [2]) (by kernel_rfl) (by simp) ?_
            intro i hi
            obtain rfl := List.mem_singleton.1 hi
            refine wpOp_runW rfl rfl (some 10) rfl (exec_allocH _ rfl) ⟨⟨(aX4.alloc _).alloc _, (a94.alloc _).alloc _⟩, ?_⟩
            have d1 : Av ((w4.alloc (.cells (zs32.map bv).toArray 28)).alloc (.cells (zs32.map bv).toArray 28)) w4.heap.size 28 (zs32.map bv) := Av.newer _ _ _ _
            have d2 : Av ((w4.alloc (.cells (zs32.map bv).toArray 28)).alloc (.cells (zs32.map bv).toArray 28)) (w4.heap.size + 1) 28 (zs32.map bv) := heap_alloc2_new _ _ _
            have e2 : (w4.alloc (.cells (zs32.map bv).toArray 28)).heap.size = w4.heap.size + 1 := World.size_alloc _ _
            have bA : Below w3.heap.size w3 ((w4.alloc (.cells (zs32.map bv).toArray 28)).alloc (.cells (zs32.map bv).toArray 28)) := (b4.alloc b4.size _).alloc (by rw [e2]; have := b4.size; omega) _
            have aX5 := (aX4.alloc (.cells (zs32.map bv).toArray 28)).alloc (.cells (zs32.map bv).toArray 28)
            have a95 := (a94.alloc (.cells (zs32.map bv).toArray 28)).alloc (.cells (zs32.map bv).toArray 28)
            rw [e2]
            generalize (w4.alloc (.cells (zs32.map bv).toArray 28)).alloc (.cells (zs32.map bv).toArray 28) = w5 at *
            obtain ⟨g, hg⟩ : ∃ g, g = w4.heap.size + 1 := ⟨_, rfl⟩
            obtain ⟨q, hq⟩ : ∃ q, q = w4.heap.size := ⟨_, rfl⟩
            have ng : g ≠ q := by omega
            have hgw : w3.heap.size ≤ g := by have := b4.size; omega
            have hqw : w3.heap.size ≤ q := by have := b4.size; omega
            rw [← hq] at d1
            rw [← hg] at d2
            have c1 := d2
            have c2 := d1
            rw [← hg, ← hq]
            have ngX : g ≠ w.heap.size := by have := aX3lt; omega
            have ngG : g ≠ G9 := by have := a93lt; omega
            have nqX : q ≠ w.heap.size := by have := aX3lt; omega
            have nqG : q ≠ G9 := by have := a93lt; omega
            clear d1 d2 hg hq
            refine wpAnyH_all (rs := [4]) (by kernel_rfl) (by simp) ?_
            intro i hi
            obtain rfl := List.mem_singleton.1 hi
            refine wpOp_storeAv c1 (C := y.map bv) (by rw [yv32.out]; rfl) rfl rfl _ _ _ rfl rfl rfl rfl 32 yv32.out (by kernel_rfl) yone.out ?_
            intro w6 c16 f6
            have c26 := f6.av c2 (Ne.symm ng)
            have aX6 := f6.av aX5 (Ne.symm ngX)
            have a96 := f6.av a95 (Ne.symm ngG)
            have b6 := bA.trans (f6.below (fun j e => by omega) bA.size)
            refine ⟨⟨aX6, a96⟩, ?_⟩
            refine wpAnyH_all (rs := [5]) (by kernel_rfl) (by simp) ?_
            intro i hi
            obtain rfl := List.mem_singleton.1 hi
            refine wpOp_storeAv c26 (C := o.map bv) (by rw [ov32.out]; rfl) rfl rfl _ _ _ rfl rfl rfl rfl 32 ov32.out (by kernel_rfl) oone.out ?_
            intro w7 c27 f7
            have c17 := f7.av c16 ng
            have b7 := b6.trans (f7.below (fun j e => by omega) b6.size)
            refine ⟨⟨f7.av aX6 (Ne.symm nqX), f7.av a96 (Ne.symm nqG)⟩, ?_⟩
            refine wpAnyH_done (by kernel_rfl) ?_ _
            simp only [List.set_cons_succ, List.set_cons_zero, Act.put, List.setIfInBounds_toArray]
            refine hK1 _ _ ?_
            go_meet
            exact ⟨g, q, rfl, rfl, ng, hgw, hqw, c17, c27, b7⟩
        case rest =>
          obtain ⟨g, q, rfl, rfl, ngq, hgw3, hqw3, agc, aqc, bc⟩ := hcut
          have aXc := aX3.below bc
          have a9c := a93.below bc
          have ownc := own_below own3 bc
          have stc := st3.below bc
          have bwc := bw3.trans (bc.mono bw3.size)
          have hgw2 : w.heap.size ≤ g := Nat.le_trans bw3.size hgw3
          have hqw2 : w.heap.size ≤ q := Nat.le_trans bw3.size hqw3
          have ngX : g ≠ w.heap.size := by have := aX3.lt; omega
          have nqX : q ≠ w.heap.size := by have := aX3.lt; omega
          have nG9 : G9 ≠ g := by have := a93.lt; omega
          clear aX3 a93 own3 st3 bw3 bc hgw3 hqw3
          rcases hpar.out with ⟨hodd, e1, e2⟩ | ⟨hodd, e1, e2⟩
          · have t2 : (((i' : Int) % 2) == 1) = true := by simp; omega
            go_upto_region 8 with fail
            refine wp_region_relG 3 [] [(2, fun w' => Av w' g 28 (o.map bv))] (RS g 28 (o.map bv)) (by kernel_rfl) (by kernel_rfl) (by kernel_rfl) (by kernel_rfl) (by kernel_rfl) (by kernel_rfl) (fun w => RS.refl w) RS.trans (by intro p hp; cases hp) (by
              intro p hp w w' hR h
              simp only [List.mem_singleton] at hp
              subst hp
              exact hR.2.1 h) ?_
            refine gel (fun w => RS.refl w) rfl (relPure (fun w => RS.refl w) rfl rfl rfl rfl (c := .agg (hcs o)) (fun w hw => exec_loadAv (hw.1.av a9c.drew nG9) _ _ rfl rfl _ 32 ov32.out Tryd.underlying28 rfl (by kernel_rfl)) (by simp only [List.set_cons_succ, List.set_cons_zero]; rfl) (gend ?_))
            refine gel (fun w => RS.refl w) rfl (relPure (fun w => RS.refl w) rfl rfl rfl rfl (c := .agg (hcs y)) (fun w hw => exec_loadAv (hw.1.av aXc.drew (Ne.symm ngX)) _ _ rfl rfl _ 32 yv32.out Tryd.underlying28 rfl (by kernel_rfl)) (by simp only [List.set_cons_succ, List.set_cons_zero]; rfl) (gend ?_))
            refine gStore rfl rfl (fun w hw => exec_storeAv (C := o.map bv) agc.drew (by rw [yv32.out, ov32.out]) hw _ _ _ rfl rfl rfl 32 ov32.out (by kernel_rfl) oone.out 2) ?_
            refine relEndG fun w4 hw4 hg => ?_
            simp only [List.drop_succ_cons, List.drop_zero]
            have ag4 := hg (2, fun w' => Av w' g 28 (o.map bv)) (List.mem_singleton.2 rfl)
            have f4 := Fr.ofDrew hw4.1
            have aq4 := f4.av aqc (Ne.symm ngq)
            have aX4 := f4.av aXc (Ne.symm ngX)
            have own4 := own_fr ownc f4 (fun j e h => own_ne ownc agc (by decide) (by rw [e, h]))
            have st4 := stc.store f4 agc (by decide)
            have bw4 := bwc.trans (f4.below (fun j e => by omega) bwc.size)
            clear hg hw4 f4 agc aqc aXc a9c ownc stc bwc
            go_upto_region 9 with ((with_reducible refine wpList_storeFA 28 (Below.refl w.heap.size w4) aq4 (by omega) (y.map bv) ?_ ?_ 32 yv32.out ?_ ?_ ?_ ?_); rfl; rfl; kernel_rfl; exact ov32.out; exact yone.out; intro w5 aq5 b5 k5 z5)
            have f5 := Fr.ofStore b5 k5 z5
            have ag := f5.av ag4 ngq
            have aX5 := f5.av aX4 (Ne.symm nqX)
            have own5 := own_fr own4 f5 (fun j e h => own_ne own4 aq4 (by decide) (by rw [e, h]))
            have st5 := st4.store f5 aq4 (by decide)
            have bw5 := bw4.trans b5
            have aq := aq5
            rw [← e1] at ag
            rw [← e2] at aq
            clear f5 k5 z5 b5 ag4 aq4 aX4 own4 st4 bw4 aq5
            have l132 : (l1.map bv).length = 32 := by rw [List.length_map, hl1.out]
            have r132 : (r1.map bv).length = 32 := by rw [List.length_map, hr1.out]
            have cl1 : (l1.map bv).length = min 32 64 := l132
            have cr1 : (r1.map bv).length = min 32 32 := r132
            have cf1 : 0 + (l1.map bv).length ≤ mk.length := by rw [l132, hmk.out]; decide
            replace l132 := Lib.hid l132
            replace r132 := Lib.hid r132
            replace cl1 := Lib.hid cl1
            replace cr1 := Lib.hid cr1
            replace cf1 := Lib.hid cf1
            go_upto_region 10 with fail
            obtain ⟨w6, hw6⟩ : ∃ w6, w6 = w5.alloc (.cells mk.toArray 5) := ⟨_, rfl⟩
            obtain ⟨G, hG⟩ : ∃ G, G = w5.heap.size := ⟨_, rfl⟩
            have a6 : Av w6 G 5 mk := by rw [hw6, hG]; exact Av.new _ _ _
            have b6 : Below w5.heap.size w5 w6 := by rw [hw6]; exact (Below.refl _ _).alloc (Nat.le_refl _) _
            rw [← hw6, ← hG]
            have ag6 := ag.below b6
            have aq6 := aq.below b6
            have aX6 := aX5.below b6
            have own6 := own_below own5 b6
            have st6 := st5.below b6
            have bw6 := bw5.trans (b6.mono bw5.size)
            have hGw : w.heap.size ≤ G := by rw [hG]; exact bw5.size
            have hgG : g ≠ G := by have := ag.lt; omega
            have hqG : q ≠ G := by have := aq.lt; omega
            have hXG : w.heap.size ≠ G := by have := aX5.lt; omega
            have hsG : ∀ g' ∈ gs, g' ≠ G := fun g' h => by have := st5.lt g' h; omega
            replace hw6 := Lib.hid hw6
            replace hG := Lib.hid hG
            replace hsG := Lib.hid hsG
            clear ag aq aX5 own5 st5 bw5 b6
            go_upto_region 11 with ((with_reducible refine wpList_copyQ a6 5 Tryd.underlying24 size_u8q 0 64 64 (some ⟨g, 0, none⟩) 32 32 (l1.map bv) ag6.rd cl1.out cf1.out (bv_one l1) ?_ ?_ ?_); rfl; rfl; intro w7 a7 f7)
            obtain ⟨cp1, cp2⟩ := copied64 l1 r1 hl1.out hr1.out mk hmk.out
            obtain ⟨s7, hs7⟩ : ∃ s7, s7 = mk.take 0 ++ l1.map bv ++ mk.drop (0 + (l1.map bv).length) := ⟨_, rfl⟩
            rw [← hs7] at a7 cp1 cp2
            have aq7 := f7.av aq6 hqG
            have aX7 := f7.av aX6 hXG
            have own7 := own_fr own6 f7 (fun j e h => own_ne own6 a6 (by decide) (by rw [e, h]))
            have st7 : StAt w7 gs (R.take j) := st6.new (B := 0) f7 (fun g' _ _ h => hsG.out g' h)
            have bw7 := bw6.trans (f7.below (fun j e => by omega) bw6.size)
            replace hs7 := Lib.hid hs7
            have cf2 : 32 + (r1.map bv).length ≤ s7.length := by rw [r132.out, cp1]; decide
            replace cf2 := Lib.hid cf2
            replace cp1 := Lib.hid cp1
            replace cp2 := Lib.hid cp2
            rw [l132.out]
            clear a6 f7 ag6 aq6 aX6 own6 st6 bw6
            refine wp_region_relT 3 [] Ext (by kernel_rfl) (by kernel_rfl) (by kernel_rfl) (by kernel_rfl) (by kernel_rfl) Ext.refl Ext.trans (by intro p hp; cases hp) ?_
            refine relMove Ext.refl rfl rfl rfl rfl _ (.inl rfl) (by conv => lhs; whnf) (by simp only [List.set_cons_succ, List.set_cons_zero]; rfl) ?_
            refine relPure Ext.refl rfl rfl rfl rfl (c := .slice (some ⟨G, 32, none⟩) 32 32) (fun w _ => by go_simp; first | done | rfl) (by simp only [List.set_cons_succ, List.set_cons_zero]; rfl) ?_
            refine relPure Ext.refl rfl rfl rfl rfl (c := .slice (some ⟨q, 0, none⟩) 32 32) (fun w _ => by go_simp; first | done | rfl) (by simp only [List.set_cons_succ, List.set_cons_zero]; rfl) ?_
            refine relEnd fun w8 hw8 => fill_end ?_
            simp only [List.drop_succ_cons, List.drop_zero]
            have b8 := hw8.drew
            have a8 := a7.below b8
            have aq8 := aq7.below b8
            have aX8 := aX7.below b8
            have own8 := own_below own7 b8
            have st8 := st7.below b8
            have bw8 := bw7.trans (b8.mono bw7.size)
            clear a7 aq7 aX7 own7 st7 bw7 hw8 b8
            go_upto_region 12 with ((with_reducible refine wpList_copyQ a8 5 Tryd.underlying24 size_u8q 32 32 32 (some ⟨q, 0, none⟩) 32 32 (r1.map bv) aq8.rd cr1.out cf2.out (bv_one r1) ?_ ?_ ?_); rfl; rfl; intro w9 a9 f9)
            rw [cp2.out, ← htx2.out] at a9
            have aX9 := f9.av aX8 hXG
            have own9 := own_fr own8 f9 (fun j e h => own_ne own8 a8 (by decide) (by rw [e, h]))
            have st9 : StAt w9 gs (R.take j) := st8.new (B := 0) f9 (fun g' _ _ h => hsG.out g' h)
            have bw9 := bw8.trans (f9.below (fun j e => by omega) bw8.size)
            clear a8 f9 aq8 aX8 own8 st8 bw8
            have bA : Below w9.heap.size w9 (w9.alloc (.cells #[.slice (some ⟨G, 0, none⟩) 64 64] 24)) := (Below.refl _ _).alloc (Nat.le_refl _) _
            have hBs : w.heap.size ≤ (w9.alloc (.cells #[.slice (some ⟨G, 0, none⟩) 64 64] 24)).heap.size := Nat.le_trans bw9.size bA.size
            have ownA := own_below own9 bA
            have stA := st9.below bA
            have aA := a9.below bA
            have aXA := aX9.below bA
            have bwA := bw9.trans (bA.mono bw9.size)
            have n12 : gs.length = j := by rw [st9.1, List.length_take, hRl.out]; omega
            replace n12 := Lib.hid n12
            replace bA := Lib.hid bA
            replace hBs := Lib.hid hBs
            clear own9 st9 bw9 a9 aX9
            go_upto_region 13 with ((at_builtin; refine wpList_appE Tryd.underlying43 infoLu zeroLu (by decide) ownA hBs.out (A := some ⟨w9.heap.size, 0, none⟩) [.slice (some ⟨G, 0, none⟩) 64 64] 1 1 (Rd.one _ _ _) rfl (by simp [Value.oneCell']) (by omega) (by omega) rfl (.tmp 36) (.tmp 38) rfl rfl rfl ?_; intro v10 w10 own10 gr10 ob10; obtain ⟨A10, c10, rfl, hc10, _⟩ := own_form own10))
            have f10 := Fr.of_grown gr10
            have a10 := f10.av aA (fun e => own_ne ownA aA (by decide) e.symm)
            have aX10 := f10.av aXA (fun e => own_ne ownA aXA (by decide) e.symm)
            have st10 := (stA.grown ownA (by decide) gr10).snoc a10
            have bw10 := own_app bwA ownA gr10 hBs.out
            rw [← slc_snoc] at own10
            have HD2 := HD.out G w10 a10.rd (hT.below bw10)
            replace HD2 := Lib.hid HD2
            clear ownA stA aA aXA bwA gr10 f10 a10 hc10 ob10 bA hBs
            go_wp2_with (first
              | (go_at_call 26; refine (HD2.out).mono ?_; rintro e w11 ⟨rfl, b11⟩)
              | ((with_reducible refine wpList_storeFA 28 (Below.refl w.heap.size w11) (aX10.below b11) (Nat.le_refl _) (z.map bv) ?_ ?_ 32 zv32.out ?_ ?_ ?_ ?_); rfl; rfl; kernel_rfl; exact yv32.out; exact zone.out; intro w12 a12 b12 k12 z12))
            have f12 := Fr.ofStore b12 k12 z12
            have aX11 := aX10.below b11
            have bw11 := bw10.trans (b11.mono bw10.size)
            have own12 := own_fr (own_below own10 b11) f12 (fun j e h => own_ne (own_below own10 b11) aX11 (by decide) (by rw [e, h]))
            have st12 := (st10.below b11).store f12 aX11 (by decide)
            have bw12 := bw11.trans (f12.below (fun j e => by omega) bw11.size)
            rw [← htk.out] at st12
            refine ⟨⟨j + 1, i2, z, gs ++ [G], by omega, rfl, rfl, by omega, hz32.out, hrest, ?_, bw12, a12, own12, st12⟩, ?_⟩
            · intro g' hg'
              rcases List.mem_append.1 hg' with h | h
              · exact hgw.out g' h
              · rw [List.mem_singleton.1 h]; exact hGw
            · simp only [intOf]
              omega
          · have t2 : (((i' : Int) % 2) == 1) = false := by simp; omega
            go_upto_region 9 with fail
            obtain ⟨w5, hw5⟩ : ∃ w5, w5 = wc := ⟨_, rfl⟩
            have ag := agc
            have aq := aqc
            have aX5 := aXc
            have own5 := ownc
            have st5 := stc
            have bw5 := bwc
            rw [← e1] at ag
            rw [← e2] at aq
            rw [← hw5] at ag aq aX5 own5 st5 bw5 ⊢
            clear hw5 agc aqc aXc a9c ownc stc bwc
            have l132 : (l1.map bv).length = 32 := by rw [List.length_map, hl1.out]
            have r132 : (r1.map bv).length = 32 := by rw [List.length_map, hr1.out]
            have cl1 : (l1.map bv).length = min 32 64 := l132
            have cr1 : (r1.map bv).length = min 32 32 := r132
            have cf1 : 0 + (l1.map bv).length ≤ mk.length := by rw [l132, hmk.out]; decide
            replace l132 := Lib.hid l132
            replace r132 := Lib.hid r132
            replace cl1 := Lib.hid cl1
            replace cr1 := Lib.hid cr1
            replace cf1 := Lib.hid cf1
            go_upto_region 10 with fail
            obtain ⟨w6, hw6⟩ : ∃ w6, w6 = w5.alloc (.cells mk.toArray 5) := ⟨_, rfl⟩
            obtain ⟨G, hG⟩ : ∃ G, G = w5.heap.size := ⟨_, rfl⟩
            have a6 : Av w6 G 5 mk := by rw [hw6, hG]; exact Av.new _ _ _
            have b6 : Below w5.heap.size w5 w6 := by rw [hw6]; exact (Below.refl _ _).alloc (Nat.le_refl _) _
            rw [← hw6, ← hG]
            have ag6 := ag.below b6
            have aq6 := aq.below b6
            have aX6 := aX5.below b6
            have own6 := own_below own5 b6
            have st6 := st5.below b6
            have bw6 := bw5.trans (b6.mono bw5.size)
            have hGw : w.heap.size ≤ G := by rw [hG]; exact bw5.size
            have hgG : g ≠ G := by have := ag.lt; omega
            have hqG : q ≠ G := by have := aq.lt; omega
            have hXG : w.heap.size ≠ G := by have := aX5.lt; omega
            have hsG : ∀ g' ∈ gs, g' ≠ G := fun g' h => by have := st5.lt g' h; omega
            replace hw6 := Lib.hid hw6
            replace hG := Lib.hid hG
            replace hsG := Lib.hid hsG
            clear ag aq aX5 own5 st5 bw5 b6
            go_upto_region 11 with ((with_reducible refine wpList_copyQ a6 5 Tryd.underlying24 size_u8q 0 64 64 (some ⟨g, 0, none⟩) 32 32 (l1.map bv) ag6.rd cl1.out cf1.out (bv_one l1) ?_ ?_ ?_); rfl; rfl; intro w7 a7 f7)
            obtain ⟨cp1, cp2⟩ := copied64 l1 r1 hl1.out hr1.out mk hmk.out
            obtain ⟨s7, hs7⟩ : ∃ s7, s7 = mk.take 0 ++ l1.map bv ++ mk.drop (0 + (l1.map bv).length) := ⟨_, rfl⟩
            rw [← hs7] at a7 cp1 cp2
            have aq7 := f7.av aq6 hqG
            have aX7 := f7.av aX6 hXG
            have own7 := own_fr own6 f7 (fun j e h => own_ne own6 a6 (by decide) (by rw [e, h]))
            have st7 : StAt w7 gs (R.take j) := st6.new (B := 0) f7 (fun g' _ _ h => hsG.out g' h)
            have bw7 := bw6.trans (f7.below (fun j e => by omega) bw6.size)
            replace hs7 := Lib.hid hs7
            have cf2 : 32 + (r1.map bv).length ≤ s7.length := by rw [r132.out, cp1]; decide
            replace cf2 := Lib.hid cf2
            replace cp1 := Lib.hid cp1
            replace cp2 := Lib.hid cp2
            rw [l132.out]
            clear a6 f7 ag6 aq6 aX6 own6 st6 bw6
            refine wp_region_relT 3 [] Ext (by kernel_rfl) (by kernel_rfl) (by kernel_rfl) (by kernel_rfl) (by kernel_rfl) Ext.refl Ext.trans (by intro p hp; cases hp) ?_
            refine relMove Ext.refl rfl rfl rfl rfl _ (.inl rfl) (by conv => lhs; whnf) (by simp only [List.set_cons_succ, List.set_cons_zero]; rfl) ?_
            refine relPure Ext.refl rfl rfl rfl rfl (c := .slice (some ⟨G, 32, none⟩) 32 32) (fun w _ => by go_simp; first | done | rfl) (by simp only [List.set_cons_succ, List.set_cons_zero]; rfl) ?_
            refine relPure Ext.refl rfl rfl rfl rfl (c := .slice (some ⟨q, 0, none⟩) 32 32) (fun w _ => by go_simp; first | done | rfl) (by simp only [List.set_cons_succ, List.set_cons_zero]; rfl) ?_
            refine relEnd fun w8 hw8 => fill_end ?_
            simp only [List.drop_succ_cons, List.drop_zero]
            have b8 := hw8.drew
            have a8 := a7.below b8
            have aq8 := aq7.below b8
            have aX8 := aX7.below b8
            have own8 := own_below own7 b8
            have st8 := st7.below b8
            have bw8 := bw7.trans (b8.mono bw7.size)
            clear a7 aq7 aX7 own7 st7 bw7 hw8 b8
            go_upto_region 12 with ((with_reducible refine wpList_copyQ a8 5 Tryd.underlying24 size_u8q 32 32 32 (some ⟨q, 0, none⟩) 32 32 (r1.map bv) aq8.rd cr1.out cf2.out (bv_one r1) ?_ ?_ ?_); rfl; rfl; intro w9 a9 f9)
            rw [cp2.out, ← htx2.out] at a9
            have aX9 := f9.av aX8 hXG
            have own9 := own_fr own8 f9 (fun j e h => own_ne own8 a8 (by decide) (by rw [e, h]))
            have st9 : StAt w9 gs (R.take j) := st8.new (B := 0) f9 (fun g' _ _ h => hsG.out g' h)
            have bw9 := bw8.trans (f9.below (fun j e => by omega) bw8.size)
            clear a8 f9 aq8 aX8 own8 st8 bw8
            have bA : Below w9.heap.size w9 (w9.alloc (.cells #[.slice (some ⟨G, 0, none⟩) 64 64] 24)) := (Below.refl _ _).alloc (Nat.le_refl _) _
            have hBs : w.heap.size ≤ (w9.alloc (.cells #[.slice (some ⟨G, 0, none⟩) 64 64] 24)).heap.size := Nat.le_trans bw9.size bA.size
            have ownA := own_below own9 bA
            have stA := st9.below bA
            have aA := a9.below bA
            have aXA := aX9.below bA
            have bwA := bw9.trans (bA.mono bw9.size)
            have n12 : gs.length = j := by rw [st9.1, List.length_take, hRl.out]; omega
            replace n12 := Lib.hid n12
            replace bA := Lib.hid bA
            replace hBs := Lib.hid hBs
            clear own9 st9 bw9 a9 aX9
            go_upto_region 13 with ((at_builtin; refine wpList_appE Tryd.underlying43 infoLu zeroLu (by decide) ownA hBs.out (A := some ⟨w9.heap.size, 0, none⟩) [.slice (some ⟨G, 0, none⟩) 64 64] 1 1 (Rd.one _ _ _) rfl (by simp [Value.oneCell']) (by omega) (by omega) rfl (.tmp 36) (.tmp 38) rfl rfl rfl ?_; intro v10 w10 own10 gr10 ob10; obtain ⟨A10, c10, rfl, hc10, _⟩ := own_form own10))
            have f10 := Fr.of_grown gr10
            have a10 := f10.av aA (fun e => own_ne ownA aA (by decide) e.symm)
            have aX10 := f10.av aXA (fun e => own_ne ownA aXA (by decide) e.symm)
            have st10 := (stA.grown ownA (by decide) gr10).snoc a10
            have bw10 := own_app bwA ownA gr10 hBs.out
            rw [← slc_snoc] at own10
            have HD2 := HD.out G w10 a10.rd (hT.below bw10)
            replace HD2 := Lib.hid HD2
            clear ownA stA aA aXA bwA gr10 f10 a10 hc10 ob10 bA hBs
            go_wp2_with (first
              | (go_at_call 26; refine (HD2.out).mono ?_; rintro e w11 ⟨rfl, b11⟩)
              | ((with_reducible refine wpList_storeFA 28 (Below.refl w.heap.size w11) (aX10.below b11) (Nat.le_refl _) (z.map bv) ?_ ?_ 32 zv32.out ?_ ?_ ?_ ?_); rfl; rfl; kernel_rfl; exact yv32.out; exact zone.out; intro w12 a12 b12 k12 z12))
            have f12 := Fr.ofStore b12 k12 z12
            have aX11 := aX10.below b11
            have bw11 := bw10.trans (b11.mono bw10.size)
            have own12 := own_fr (own_below own10 b11) f12 (fun j e h => own_ne (own_below own10 b11) aX11 (by decide) (by rw [e, h]))
            have st12 := (st10.below b11).store f12 aX11 (by decide)
            have bw12 := bw11.trans (f12.below (fun j e => by omega) bw11.size)
            rw [← htk.out] at st12
            refine ⟨⟨j + 1, i2, z, gs ++ [G], by omega, rfl, rfl, by omega, hz32.out, hrest, ?_, bw12, a12, own12, st12⟩, ?_⟩
            · intro g' hg'
              rcases List.mem_append.1 hg' with h | h
              · exact hgw.out g' h
              · rw [List.mem_singleton.1 h]; exact hGw
            · simp only [intOf]
              omega
      · obtain rfl : j = n := by omega
        have t1 : decide ((j : Int) < (j : Int)) = false := by simp
        rw [List.take_of_length_le (by rw [hRl.out]; exact Nat.le_refl _)] at hst
        obtain ⟨A1, c1, rfl, hc1, _⟩ := own_form hown
        have hA1 := own_A hown
        have hrd := own_rd hown
        replace hA1 := Lib.hid hA1
        clear hcl0
        go_wp2
        go_ret
        refine ⟨hb, A1, c1, gs, by rw [hRl.out]; rfl, by rw [hRl.out]; exact hc1, hA1.out, hgw.out, hrd, hst⟩
end Go.Proofs.YtdkknincamkhpaaDoor
