/- Rows, literals and copies of whatever elements; a region walked op by op in whatever order. -/
import Derived.Test.YtjgdmpbaikhflaaDoorPr2
import Derived.Test.YtjgdmpbaikhflaaDoorRelT
import Derived.Great.BuildSlice
import Derived.Laws.CopyRow
namespace Go.Proofs.YtjgdmpbaikhflaaDoor
open Go.RowKit

theorem own_rd {w : World} {base : Nat} {e : TypeId} {size n k c : Nat} {A : Option Addr} {xs : List Value} (h : w.ownsRow base e size (.slice A k c) n xs) : Rd w A xs := by
  rcases h.2 with ⟨e, e0⟩ | ⟨g, cap, cur, e, hb, hg, _⟩
  · have hl := h.1
    subst e0
    have : xs = [] := List.eq_nil_of_length_eq_zero (by simpa using hl)
    exact .inl this
  · injection e with e1 e2 e3
    subst e1
    refine .inr ⟨_, _, rfl, fun j u hu => ?_⟩
    have := h.cells (g := g) rfl j u hu
    rwa [addr_add] at this
theorem own_form {w : World} {base : Nat} {e : TypeId} {size n : Nat} {v : Value} {xs : List Value} (h : w.ownsRow base e size v n xs) : ∃ A c, v = .slice A n c ∧ n ≤ c ∧ c ≤ maxLen := by
  rcases h.2 with ⟨e, e0⟩ | ⟨g, cap, cur, e, hb, hg, hc, hm, _⟩
  · exact ⟨none, 0, by rw [e, e0], by omega, by simp [maxLen]⟩
  · exact ⟨_, cap, e, hc, hm⟩
theorem own_below {w w' : World} {base : Nat} {e : TypeId} {size n : Nat} {v : Value} {xs : List Value} (h : w.ownsRow base e size v n xs) (hb : Below w.heap.size w w') : w'.ownsRow base e size v n xs :=
  h.kept (row := none) ⟨hb.os, hb.tape, hb.output, hb.size, fun k hk _ => hb.block k hk⟩ (by cases v.ownBlock <;> simp)
theorem own_app {w0 w w' : World} {base : Nat} {e : TypeId} {size n : Nat} {v : Value} {xs : List Value} (hb : Below base w0 w) (h : w.ownsRow base e size v n xs) (hg : w.grownBy w' v.ownBlock) (hbase : base ≤ w.heap.size) : Below base w0 w' :=
  hb.grown hg hbase fun k hk => (World.ownsRow.lt h k hk).1

theorem wpList_execW {P : Program} {ops : Array Oper} {rest : List Oper} {o : Oper} {a : Act} {w w' : World} {Q : Exit → Act → World → Prop} {v : Value} (hw : Region.wanted o (yielded ops a.tmps) = true) (h : (execOp a.eval o).run P w = .ok (.value v) w') (k : wpList P ops Q rest (a.put o.dst v) w') : wpList P ops Q (o :: rest) a w := by
  unfold wpList
  rw [if_pos hw]
  refine .inl ?_
  unfold Oper.wp
  rw [h]
  exact k
theorem wpAny_step {P : Program} {md : Region.Mode} {ops : Array Oper} {Q : Exit → Act → World → Prop} {fuel : Nat} {listed : Array Bool} {a : Act} {w : World} {rs : List Nat} (hr : Region.ready md ops listed = rs) (hne : rs ≠ [])
    (h : ∀ i ∈ rs, wpOp P ops Q i (wpAny P md ops Q fuel (listed.setIfInBounds i true)) a w) : wpAny P md ops Q (fuel + 1) listed a w :=
  ⟨fun h0 => absurd (hr.symm.trans h0) hne, fun i hi => h i (hr ▸ hi)⟩
theorem wpOp_wp {P : Program} {ops : Array Oper} {Q : Exit → Act → World → Prop} {i : Nat} {K : Act → World → Prop} {a : Act} {w : World} {o : Oper} (ho : ops[i]? = some o) (hg : o.guard = none) (h : o.wp P a w K Q) : wpOp P ops Q i K a w := by
  unfold wpOp
  rw [ho]
  dsimp only
  rw [if_pos (by unfold Region.wanted; rw [hg])]
  exact .inl h
theorem wpOp_run {P : Program} {ops : Array Oper} {Q : Exit → Act → World → Prop} {i : Nat} {K : Act → World → Prop} {a : Act} {w : World} {o : Oper} {v : Value} (ho : ops[i]? = some o) (hg : o.guard = none) (h : (execOp a.eval o).run P w = .ok (.value v) w) (k : K (a.put o.dst v) w) : wpOp P ops Q i K a w := by
  refine wpOp_wp ho hg ?_
  unfold Oper.wp
  rw [h]
  exact k
theorem own_fr {S : Nat → Prop} {w w' : World} {base : Nat} {e : TypeId} {size n : Nat} {v : Value} {xs : List Value} (ho : w.ownsRow base e size v n xs) (h : Fr S w w') (hv : ∀ k, v.ownBlock = some k → ¬ S k) : w'.ownsRow base e size v n xs := by
  refine ⟨ho.1, ho.2.imp id ?_⟩
  rintro ⟨g, cap, cur, rfl, hb, hg, hrest⟩
  refine ⟨g, cap, cur, rfl, hb, ?_, hrest⟩
  rw [h.block g (Array.getElem?_eq_some_iff.1 hg).1 (hv g rfl)]
  exact hg
/-- 'append(s, T{..})': a literal of one element of its own -/
theorem exec_build1 {P : Program} {t e : TypeId} {size bytes : Nat} (ht : P.underlying t = some (.slice e)) (hi : (P.info? e).map (fun i => (i.size, i.bytes)) = some (size, bytes)) (hz : (P.info? e).map (fun i => (i.zero.map (·.cells.size))) = some (some size)) (h0 : 0 < size) (hb : size ≤ 1000000)
    {o : Oper} {ρ : Operand → Value} (w : World) (cs : List Value) (hc : cs.length = size) (y : Operand) (ho : o.op = .buildSlice t 1 #[(0, y)]) (hy : ρ y = .agg cs.toArray) :
    (execOp ρ o).run P w = .ok (.value (.slice (some ⟨w.heap.size, 0, none⟩) 1 1)) (w.alloc (.cells cs.toArray e)) := by
  obtain ⟨i0, hi0, hz0⟩ := Option.map_eq_some_iff.1 hi
  obtain ⟨i1, hi1, hz1⟩ := Option.map_eq_some_iff.1 hz
  obtain rfl : i1 = i0 := by rw [hi0] at hi1; exact (Option.some.inj hi1).symm
  obtain ⟨z, hz2, hz3⟩ := Option.map_eq_some_iff.1 hz1
  injection hz0 with hz4 hz5
  have := run_buildSlice (P := P) w t e 1 #[(0, .agg cs.toArray)] cs.toArray i1 z ht hi0 hz2 (by rw [hz4]; omega) (by rw [hz4]; omega) (by
    rw [hz4]
    have := Great.fill_whole (s := size) h0 [Value.agg cs.toArray] ((Array.range (1 * size)).map (z.cells[· % z.cells.size]!)) (fun v hv => by
      rw [List.mem_singleton.1 hv]; simp [Value.cells, hc]) (by simp)
    simp only [List.zipIdx_cons, List.zipIdx_nil, List.map_cons, List.map_nil, Nat.zero_add] at this
    rw [this]
    simp [Value.cells])
  unfold execOp
  simp only [ho, Sem.run_bind, List.map_toArray, List.map_cons, List.map_nil, hy, this, Result.andThen_ok]
  rfl
/-- the same, known by the operation's own form: no other operation is tried -/
theorem wpList_build1 {P : Program} {t e : TypeId} {size bytes : Nat} (ht : P.underlying t = some (.slice e)) (hi : (P.info? e).map (fun i => (i.size, i.bytes)) = some (size, bytes)) (hz : (P.info? e).map (fun i => (i.zero.map (·.cells.size))) = some (some size)) (h0 : 0 < size) (hb : size ≤ 1000000)
    (cs : List Value) (hc : cs.length = size) {ops : Array Oper} {rest : List Oper} {a : Act} {w : World} {Q : Exit → Act → World → Prop} {d ty pos af} {y : Operand} (hy : a.eval y = .agg cs.toArray)
    (k : wpList P ops Q rest (a.put d (.slice (some ⟨w.heap.size, 0, none⟩) 1 1)) (w.alloc (.cells cs.toArray e))) : wpList P ops Q (⟨d, .buildSlice t 1 #[(0, y)], ty, pos, af, none⟩ :: rest) a w :=
  wpList_execW rfl (exec_build1 ht hi hz h0 hb w cs hc y rfl hy) k
/-- 'copy(d, s)' into a block of the call's own -/
theorem run_copyAv {P : Program} {w : World} {g : Nat} {t : TypeId} {l : List Value} (h : Av w g t l) (dT sT ty elem : TypeId) (hu : P.underlying dT = some (.slice elem)) (hs : (P.info? elem).map (·.size) = some 1) (o dLen dCap : Nat) (A : Option Addr) (m c : Nat) (xs : List Value)
    (hr : Rd w A xs) (hl : xs.length = min m dLen) (hfit : o + xs.length ≤ l.length) (h1 : ∀ v ∈ xs, v.oneCell' = true) :
    ∃ w', (Builtin.copy_ #[dT, sT] ty #[.slice (some ⟨g, o, none⟩) dLen dCap, .slice A m c]).run P w = .ok (goInt xs.length) w' ∧ Av w' g t (l.take o ++ xs ++ l.drop (o + xs.length)) ∧ Fr (fun k => k = g) w w' ∧ w'.heap.size = w.heap.size := by
  by_cases hx : xs = []
  · subst hx
    refine ⟨w, ?_, by simpa using h, Fr.refl _ _, rfl⟩
    have hn : Nat.min m dLen = 0 := hl.symm
    rw [run_copy_none w dT sT ty elem _ A dLen dCap m c hu hs hn]
    rfl
  · obtain ⟨b, off, rfl⟩ := hr.someA hx
    have hsrc : ∀ j v, xs[j]? = some v → w.cell? ((⟨b, off, none⟩ : Addr).add j) = some v := by
      intro j v hj
      rcases hr with e | ⟨b', o', e, hc⟩
      · exact absurd e hx
      · cases e
        rw [addr_add]
        exact hc j v hj
    refine ⟨_, run_copy_row P w dT sT ty elem g o dLen dCap _ m c l.toArray t xs hu hs h hl hsrc (by simpa using hfit) h1, ?_, ?_, by simp⟩
    · have := setRow_heap w g l.toArray (l.take o ++ xs ++ l.drop (o + xs.length)).toArray t (0, 0) h
      exact this
    · exact ⟨rfl, rfl, rfl, by simp, fun k _ hk => setRow_other _ _ _ _ hk⟩
theorem exec_copyAv {P : Program} {w : World} {g : Nat} {t : TypeId} {l : List Value} (h : Av w g t l) (dT sT elem : TypeId) (hu : P.underlying dT = some (.slice elem)) (hs : (P.info? elem).map (·.size) = some 1) (off dLen dCap : Nat) (A : Option Addr) (m c : Nat) (xs : List Value)
    (hr : Rd w A xs) (hl : xs.length = min m dLen) (hfit : off + xs.length ≤ l.length) (h1 : ∀ v ∈ xs, v.oneCell' = true) (o : Oper) {ρ : Operand → Value} (d x : Operand) (ho : o.op = .call { callee := .builtin .copy, args := #[d, x], argTypes := #[dT, sT] })
    (hd : ρ d = .slice (some ⟨g, off, none⟩) dLen dCap) (hx : ρ x = .slice A m c) :
    ∃ w', (execOp ρ o).run P w = .ok (.value (goInt xs.length)) w' ∧ Av w' g t (l.take off ++ xs ++ l.drop (off + xs.length)) ∧ Fr (fun k => k = g) w w' ∧ w'.heap.size = w.heap.size := by
  obtain ⟨w', hrun, h2, h3, h4⟩ := run_copyAv h dT sT o.type elem hu hs off dLen dCap A m c xs hr hl hfit h1
  refine ⟨w', ?_, h2, h3, h4⟩
  unfold execOp
  simp only [ho, resolve, invoke, builtin, Sem.run_bind, Sem.run_pure, Result.andThen_ok, List.map_toArray, List.map_cons, List.map_nil, hd, hx, hrun]
theorem exec_copyAvK {P : Program} {w : World} {g : Nat} {t : TypeId} {l : List Value} (h : Av w g t l) (dT sT elem : TypeId) (hu : P.underlying dT = some (.slice elem)) (hs : (P.info? elem).map (·.size) = some 1) (off dLen dCap : Nat) (A : Option Addr) (m c : Nat) (xs : List Value)
    (hr : Rd w A xs) (hl : xs.length = min m dLen) (hfit : off + xs.length ≤ l.length) (h1 : ∀ v ∈ xs, v.oneCell' = true) {o : Oper} {ρ : Operand → Value} (d x : Operand) (ho : o.op = .call { callee := .builtin .copy, args := #[d, x], argTypes := #[dT, sT] })
    (hd : ρ d = .slice (some ⟨g, off, none⟩) dLen dCap) (hx : ρ x = .slice A m c) {Ψ : World → Prop} (k : ∀ w', Av w' g t (l.take off ++ xs ++ l.drop (off + xs.length)) → Fr (fun k => k = g) w w' → Ψ w') :
    ∃ V w', (execOp ρ o).run P w = .ok (.value V) w' ∧ Ψ w' := by
  obtain ⟨w', hrun, h2, h3, _⟩ := exec_copyAv h dT sT elem hu hs off dLen dCap A m c xs hr hl hfit h1 o d x ho hd hx
  exact ⟨_, w', hrun, k w' h2 h3⟩
theorem Fr.ofDrew {S : Nat → Prop} {w w' : World} (h : Fr S w.drew w') : Fr S w w' := ⟨h.os, h.tape, h.output, h.size, h.block⟩
theorem Fr.transNew {S T : Nat → Prop} {a b c : World} (h : Fr S a b) (k : Fr T b c) (hT : ∀ x, T x → S x ∨ a.heap.size ≤ x) : Fr S a c :=
  ⟨k.os.trans h.os, k.tape.trans h.tape, k.output.trans h.output, Nat.le_trans h.size k.size, fun i hi hs => (k.block i (Nat.lt_of_lt_of_le hi h.size) (fun ht => (hT i ht).elim hs (fun h' => by omega))).trans (h.block i hi hs)⟩
/-- 'append(s, x..)' of whatever elements -/
theorem wpList_appE {P : Program} {t e : TypeId} {size bytes : Nat} (ht : P.underlying t = some (.slice e)) (hi : (P.info? e).map (fun i => (i.size, i.bytes)) = some (size, bytes)) (hz : (P.info? e).map (fun i => (i.zero.map (·.cells.size))) = some (some size)) (h0 : 0 < size)
    {w : World} {base : Nat} {v : Value} {n : Nat} {xs : List Value} (hown : w.ownsRow base e size v n xs) (hbase : base ≤ w.heap.size) {A : Option Addr} (news : List Value) (m c : Nat) (hr : Rd w A news) (hl : news.length = m * size) (h1 : ∀ u ∈ news, u.oneCell' = true) (hm : n + m ≤ 100000000) (hmb : (n + m) * bytes ≤ 140737488355328)
    {ops : Array Oper} {rest : List Oper} {o : Oper} {a : Act} {Q : Exit → Act → World → Prop} (hgd : o.guard = none) (s x : Operand)
    (ho : o.op = .call { callee := .builtin .append, args := #[s, x], argTypes := #[t, t] })
    (hs : a.eval s = v) (hx : a.eval x = .slice A m c)
    (h : ∀ v' w', w'.ownsRow base e size v' (n + m) (xs ++ news) → w.grownBy w' v.ownBlock → (v'.ownBlock = v.ownBlock ∨ v'.ownBlock = some w.heap.size) → wpList P ops Q rest (a.put o.dst v') w') : wpList P ops Q (o :: rest) a w := by
  obtain ⟨i0, hi0, hz0⟩ := Option.map_eq_some_iff.1 hi
  obtain ⟨i1, hi1, hz1⟩ := Option.map_eq_some_iff.1 hz
  obtain rfl : i1 = i0 := by rw [hi0] at hi1; exact (Option.some.inj hi1).symm
  obtain ⟨z, hz2, hz3⟩ := Option.map_eq_some_iff.1 hz1
  injection hz0 with hz4 hz5
  exact wpList_append_rd w hgd s x t ho base e i1 z size bytes ht hi0 hz2 hz4 hz5 hz3 h0 v n xs hs hown A m c news hx hl hr h1 (by simp only [maxLen]; omega) hmb hbase h
theorem eval_tmp {a : Act} {t : Nat} {v : Value} (h : a.eval (.tmp t) = v) : a.tmps[t]?.getD undef = v := by
  rw [← h]; simp [Act.eval]
theorem put_comm (a : Act) {i j : Nat} (h : i ≠ j) (x y : Value) : (a.put (some i) x).put (some j) y = (a.put (some j) y).put (some i) x := by
  unfold Act.put
  simp only
  rw [Array.setIfInBounds_comm _ _ h]
theorem eval_put_same (a : Act) (i : Nat) (x : Value) (h : i < a.tmps.size) : (a.put (some i) x).eval (.tmp i) = x := by
  simp [Act.eval, Act.put, h]
theorem eval_put_ne (a : Act) (i t : Nat) (x : Value) (h : i ≠ t) : (a.put (some i) x).eval (.tmp t) = a.eval (.tmp t) := by
  simp [Act.eval, Act.put, h]
/-- 'copy(x[:], f(..))': a slice of an array of the call's own, a pointer's load, a call that may write, a copy: in whatever order -/
theorem region_call_copy {P : Program} {id : Nat} {ops : Array Oper} {a : Act} {w : World} {Q : Exit → Act → World → Prop} (hm : P.follows .mixedOrders = true) {o0 o1 o2 o3 o4 : Oper} (hops : ops = #[o0, o1, o2, o3, o4])
    (hg : o0.guard = none ∧ o1.guard = none ∧ o2.guard = none ∧ o3.guard = none ∧ o4.guard = none) {d0 d1 d2 d3 d4 : Nat} (hd : o0.dst = some d0 ∧ o1.dst = some d1 ∧ o2.dst = some d2 ∧ o3.dst = some d3 ∧ o4.dst = some d4)
    (hne : d0 ≠ d1 ∧ d0 ≠ d2 ∧ d0 ≠ d3 ∧ d1 ≠ d2 ∧ d1 ≠ d3 ∧ d2 ≠ d3) (hsz : d0 < a.tmps.size ∧ d1 < a.tmps.size ∧ d2 < a.tmps.size ∧ d3 < a.tmps.size) (r : Region.ready .any ops #[false, false, false, false, false] = [0,2]) (r0 : Region.ready .any ops #[true, false, false, false, false] = [1,2]) (r2 : Region.ready .any ops #[false, false, true, false, false] = [0,3]) (r01 : Region.ready .any ops #[true, true, false, false, false] = [2]) (r02 : Region.ready .any ops #[true, false, true, false, false] = [1,3]) (r23 : Region.ready .any ops #[false, false, true, true, false] = [0]) (r012 : Region.ready .any ops #[true, true, true, false, false] = [3]) (r023 : Region.ready .any ops #[true, false, true, true, false] = [1]) (r0123 : Region.ready .any ops #[true, true, true, true, false] = [4]) (r01234 : Region.ready .any ops #[true, true, true, true, true] = [])
    (p q : Nat) (hp : p ≠ d0 ∧ p ≠ d1 ∧ p ≠ d2 ∧ p ≠ d3) (hq : q ≠ d0 ∧ q ≠ d1 ∧ q ≠ d2 ∧ q ≠ d3) (V0 V1 V2 : Value) (Φ : Value → World → Prop) (Ψ : World → Prop)
    (e0 : ∀ (a' : Act) (w' : World), a'.eval (.tmp p) = a.eval (.tmp p) → (execOp a'.eval o0).run P w' = .ok (.value V0) w')
    (e1 : ∀ (a' : Act) (w' : World), a'.eval (.tmp d0) = V0 → (execOp a'.eval o1).run P w' = .ok (.value V1) w')
    (e2 : ∀ (a' : Act), a'.eval (.tmp q) = a.eval (.tmp q) → (execOp a'.eval o2).run P w.drew = .ok (.value V2) w.drew)
    (e3 : ∀ (a' : Act) (K : Act → World → Prop), a'.eval (.tmp d2) = V2 → (∀ (v : Value) (w1 : World), Φ v w1 → K (a'.put (some d3) v) w1) → o3.wp P a' w.drew K Q)
    (e4 : ∀ (a' : Act) (v : Value) (w1 : World), Φ v w1 → a'.eval (.tmp d1) = V1 → a'.eval (.tmp d3) = v → ∃ V4 w2, (execOp a'.eval o4).run P w1 = .ok (.value V4) w2 ∧ Ψ w2)
    (k : ∀ (v V4 : Value) (w2 : World), Ψ w2 → Q .normal (((((a.put (some d0) V0).put (some d1) V1).put (some d2) V2).put (some d3) v).put (some d4) V4) w2) : (Code.region id ops true).wp P Q a w := by
  obtain ⟨g0, g1, g2, g3, g4⟩ := hg
  obtain ⟨s0, s1, s2, s3, s4⟩ := hd
  obtain ⟨n01, n02, n03, n12, n13, n23⟩ := hne
  obtain ⟨z0, z1, z2, z3⟩ := hsz
  obtain ⟨p0, p1, p2, p3⟩ := hp
  obtain ⟨q0, q1, q2, q3⟩ := hq
  have m01 := n01.symm
  have m02 := n02.symm
  have m03 := n03.symm
  have m12 := n12.symm
  have m13 := n13.symm
  have m23 := n23.symm
  have p0' := p0.symm
  have p1' := p1.symm
  have p2' := p2.symm
  have p3' := p3.symm
  have q0' := q0.symm
  have q1' := q1.symm
  have q2' := q2.symm
  have q3' := q3.symm
  have hlast : ∀ (a' : Act) (v : Value) (w1 : World), Φ v w1 → a'.eval (.tmp d1) = V1 → a'.eval (.tmp d3) = v → a' = (((a.put (some d0) V0).put (some d1) V1).put (some d2) V2).put (some d3) v → wpAny P .any ops Q 1 #[true, true, true, true, false] a' w1 := by
    intro a' v w1 hv h1 h3 ha
    obtain ⟨V4, w2, hr, hs⟩ := e4 a' v w1 hv h1 h3
    refine wpAny_step r0123 (by simp) fun i hi => ?_
    obtain rfl := List.mem_singleton.1 hi
    refine wpOp_wp (o := o4) (by rw [hops]; rfl) g4 ?_
    unfold Oper.wp
    rw [hr]
    show wpAny P .any ops Q 0 _ (a'.put o4.dst V4) w2
    rw [s4]
    refine ⟨r01234, ?_⟩
    rw [ha]
    exact k _ _ _ hs
  refine wp_region_any hm ?_
  have hs5 : ops.size = 5 := by rw [hops]; rfl
  rw [hs5]
  change wpAny P .any ops Q 5 #[false, false, false, false, false] a w.drew
  refine wpAny_step (rs := [0,2]) r (by simp) fun i hi => ?_
  simp only [List.mem_cons, List.not_mem_nil, or_false] at hi
  rcases hi with rfl | rfl
  · refine wpOp_run (o := o0) (by rw [hops]; rfl) g0 (e0 _ _ rfl) ?_
    rw [s0]
    change wpAny P .any ops Q 4 #[true, false, false, false, false] _ _
    refine wpAny_step (rs := [1,2]) r0 (by simp) fun i hi => ?_
    simp only [List.mem_cons, List.not_mem_nil, or_false] at hi
    rcases hi with rfl | rfl
    · refine wpOp_run (o := o1) (by rw [hops]; rfl) g1 (e1 _ _ (by (repeat (rw [eval_put_ne _ _ _ _ (by assumption)])); exact eval_put_same _ _ _ (by simpa [put_tmps_size] using z0))) ?_
      rw [s1]
      change wpAny P .any ops Q 3 #[true, true, false, false, false] _ _
      refine wpAny_step (rs := [2]) r01 (by simp) fun i hi => ?_
      obtain rfl := List.mem_singleton.1 hi
      refine wpOp_run (o := o2) (by rw [hops]; rfl) g2 (e2 _ (by (repeat (rw [eval_put_ne _ _ _ _ (by assumption)])))) ?_
      rw [s2]
      change wpAny P .any ops Q 2 #[true, true, true, false, false] _ _
      refine wpAny_step (rs := [3]) r012 (by simp) fun i hi => ?_
      obtain rfl := List.mem_singleton.1 hi
      refine wpOp_wp (o := o3) (by rw [hops]; rfl) g3 (e3 _ _ (by (repeat (rw [eval_put_ne _ _ _ _ (by assumption)])); exact eval_put_same _ _ _ (by simpa [put_tmps_size] using z2)) fun v w1 hv => ?_)
      refine hlast _ v w1 hv (by (repeat (rw [eval_put_ne _ _ _ _ (by assumption)])); exact eval_put_same _ _ _ (by simpa [put_tmps_size] using z1)) (by (repeat (rw [eval_put_ne _ _ _ _ (by assumption)])); exact eval_put_same _ _ _ (by simpa [put_tmps_size] using z3)) ?_
      rfl
    · refine wpOp_run (o := o2) (by rw [hops]; rfl) g2 (e2 _ (by (repeat (rw [eval_put_ne _ _ _ _ (by assumption)])))) ?_
      rw [s2]
      change wpAny P .any ops Q 3 #[true, false, true, false, false] _ _
      refine wpAny_step (rs := [1,3]) r02 (by simp) fun i hi => ?_
      simp only [List.mem_cons, List.not_mem_nil, or_false] at hi
      rcases hi with rfl | rfl
      · refine wpOp_run (o := o1) (by rw [hops]; rfl) g1 (e1 _ _ (by (repeat (rw [eval_put_ne _ _ _ _ (by assumption)])); exact eval_put_same _ _ _ (by simpa [put_tmps_size] using z0))) ?_
        rw [s1]
        change wpAny P .any ops Q 2 #[true, true, true, false, false] _ _
        refine wpAny_step (rs := [3]) r012 (by simp) fun i hi => ?_
        obtain rfl := List.mem_singleton.1 hi
        refine wpOp_wp (o := o3) (by rw [hops]; rfl) g3 (e3 _ _ (by (repeat (rw [eval_put_ne _ _ _ _ (by assumption)])); exact eval_put_same _ _ _ (by simpa [put_tmps_size] using z2)) fun v w1 hv => ?_)
        refine hlast _ v w1 hv (by (repeat (rw [eval_put_ne _ _ _ _ (by assumption)])); exact eval_put_same _ _ _ (by simpa [put_tmps_size] using z1)) (by (repeat (rw [eval_put_ne _ _ _ _ (by assumption)])); exact eval_put_same _ _ _ (by simpa [put_tmps_size] using z3)) ?_
        rw [put_comm _ n12.symm]
      · refine wpOp_wp (o := o3) (by rw [hops]; rfl) g3 (e3 _ _ (by (repeat (rw [eval_put_ne _ _ _ _ (by assumption)])); exact eval_put_same _ _ _ (by simpa [put_tmps_size] using z2)) fun v w1 hv => ?_)
        change wpAny P .any ops Q 2 #[true, false, true, true, false] _ _
        refine wpAny_step (rs := [1]) r023 (by simp) fun i hi => ?_
        obtain rfl := List.mem_singleton.1 hi
        refine wpOp_run (o := o1) (by rw [hops]; rfl) g1 (e1 _ _ (by (repeat (rw [eval_put_ne _ _ _ _ (by assumption)])); exact eval_put_same _ _ _ (by simpa [put_tmps_size] using z0))) ?_
        rw [s1]
        refine hlast _ v w1 hv (by (repeat (rw [eval_put_ne _ _ _ _ (by assumption)])); exact eval_put_same _ _ _ (by simpa [put_tmps_size] using z1)) (by (repeat (rw [eval_put_ne _ _ _ _ (by assumption)])); exact eval_put_same _ _ _ (by simpa [put_tmps_size] using z3)) ?_
        rw [put_comm _ n13.symm, put_comm _ n12.symm]
  · refine wpOp_run (o := o2) (by rw [hops]; rfl) g2 (e2 _ rfl) ?_
    rw [s2]
    change wpAny P .any ops Q 4 #[false, false, true, false, false] _ _
    refine wpAny_step (rs := [0,3]) r2 (by simp) fun i hi => ?_
    simp only [List.mem_cons, List.not_mem_nil, or_false] at hi
    rcases hi with rfl | rfl
    · refine wpOp_run (o := o0) (by rw [hops]; rfl) g0 (e0 _ _ (by (repeat (rw [eval_put_ne _ _ _ _ (by assumption)])))) ?_
      rw [s0]
      change wpAny P .any ops Q 3 #[true, false, true, false, false] _ _
      refine wpAny_step (rs := [1,3]) r02 (by simp) fun i hi => ?_
      simp only [List.mem_cons, List.not_mem_nil, or_false] at hi
      rcases hi with rfl | rfl
      · refine wpOp_run (o := o1) (by rw [hops]; rfl) g1 (e1 _ _ (by (repeat (rw [eval_put_ne _ _ _ _ (by assumption)])); exact eval_put_same _ _ _ (by simpa [put_tmps_size] using z0))) ?_
        rw [s1]
        change wpAny P .any ops Q 2 #[true, true, true, false, false] _ _
        refine wpAny_step (rs := [3]) r012 (by simp) fun i hi => ?_
        obtain rfl := List.mem_singleton.1 hi
        refine wpOp_wp (o := o3) (by rw [hops]; rfl) g3 (e3 _ _ (by (repeat (rw [eval_put_ne _ _ _ _ (by assumption)])); exact eval_put_same _ _ _ (by simpa [put_tmps_size] using z2)) fun v w1 hv => ?_)
        refine hlast _ v w1 hv (by (repeat (rw [eval_put_ne _ _ _ _ (by assumption)])); exact eval_put_same _ _ _ (by simpa [put_tmps_size] using z1)) (by (repeat (rw [eval_put_ne _ _ _ _ (by assumption)])); exact eval_put_same _ _ _ (by simpa [put_tmps_size] using z3)) ?_
        rw [put_comm _ n02.symm, put_comm _ n12.symm]
      · refine wpOp_wp (o := o3) (by rw [hops]; rfl) g3 (e3 _ _ (by (repeat (rw [eval_put_ne _ _ _ _ (by assumption)])); exact eval_put_same _ _ _ (by simpa [put_tmps_size] using z2)) fun v w1 hv => ?_)
        change wpAny P .any ops Q 2 #[true, false, true, true, false] _ _
        refine wpAny_step (rs := [1]) r023 (by simp) fun i hi => ?_
        obtain rfl := List.mem_singleton.1 hi
        refine wpOp_run (o := o1) (by rw [hops]; rfl) g1 (e1 _ _ (by (repeat (rw [eval_put_ne _ _ _ _ (by assumption)])); exact eval_put_same _ _ _ (by simpa [put_tmps_size] using z0))) ?_
        rw [s1]
        refine hlast _ v w1 hv (by (repeat (rw [eval_put_ne _ _ _ _ (by assumption)])); exact eval_put_same _ _ _ (by simpa [put_tmps_size] using z1)) (by (repeat (rw [eval_put_ne _ _ _ _ (by assumption)])); exact eval_put_same _ _ _ (by simpa [put_tmps_size] using z3)) ?_
        rw [put_comm _ n02.symm, put_comm _ n13.symm, put_comm _ n12.symm]
    · refine wpOp_wp (o := o3) (by rw [hops]; rfl) g3 (e3 _ _ (by (repeat (rw [eval_put_ne _ _ _ _ (by assumption)])); exact eval_put_same _ _ _ (by simpa [put_tmps_size] using z2)) fun v w1 hv => ?_)
      change wpAny P .any ops Q 3 #[false, false, true, true, false] _ _
      refine wpAny_step (rs := [0]) r23 (by simp) fun i hi => ?_
      obtain rfl := List.mem_singleton.1 hi
      refine wpOp_run (o := o0) (by rw [hops]; rfl) g0 (e0 _ _ (by (repeat (rw [eval_put_ne _ _ _ _ (by assumption)])))) ?_
      rw [s0]
      change wpAny P .any ops Q 2 #[true, false, true, true, false] _ _
      refine wpAny_step (rs := [1]) r023 (by simp) fun i hi => ?_
      obtain rfl := List.mem_singleton.1 hi
      refine wpOp_run (o := o1) (by rw [hops]; rfl) g1 (e1 _ _ (by (repeat (rw [eval_put_ne _ _ _ _ (by assumption)])); exact eval_put_same _ _ _ (by simpa [put_tmps_size] using z0))) ?_
      rw [s1]
      refine hlast _ v w1 hv (by (repeat (rw [eval_put_ne _ _ _ _ (by assumption)])); exact eval_put_same _ _ _ (by simpa [put_tmps_size] using z1)) (by (repeat (rw [eval_put_ne _ _ _ _ (by assumption)])); exact eval_put_same _ _ _ (by simpa [put_tmps_size] using z3)) ?_
      rw [put_comm _ n03.symm, put_comm _ n02.symm, put_comm _ n13.symm, put_comm _ n12.symm]
end Go.Proofs.YtjgdmpbaikhflaaDoor
