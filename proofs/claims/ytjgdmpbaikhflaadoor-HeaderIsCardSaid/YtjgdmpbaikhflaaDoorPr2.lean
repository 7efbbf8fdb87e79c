/- App; Fr: put together for the claim. -/
import Derived.Test.YtjgdmpbaikhflaaDoorPr1
import Derived.Maps.AppendAt
/- append onto a row of the call's own, from whatever source; bytes. -/
namespace Go.Proofs.YtjgdmpbaikhflaaDoor
open Go.RowKit

theorem addr_add (b off j : Nat) : (⟨b, off, none⟩ : Addr).add j = ⟨b, off + j, none⟩ := by
  unfold Addr.add
  split
  · rename_i h; subst h; rfl
  · rfl

section
variable {P : Program} (w : World)

theorem run_append_rd (base : Nat) (t ty e : TypeId) (i : TypeInfo) (z : Value) (size bytes : Nat) (ht : P.underlying t = some (.slice e)) (hi : P.info? e = some i) (hz : i.zero = some z)
    (hsize : i.size = size) (hby : i.bytes = bytes) (hzs : z.cells.size = size) (hsz : 0 < size)
    (v : Value) (n : Nat) (xs : List Value) (hown : w.ownsRow base e size v n xs)
    (A : Option Addr) (m c : Nat) (news : List Value) (hl : news.length = m * size) (hr : Rd w A news) (h1 : ∀ u ∈ news, u.oneCell' = true)
    (hm : n + m ≤ maxLen) (hbytes : (n + m) * bytes ≤ 140737488355328) (hbase : base ≤ w.heap.size) :
    ∃ v' w', (Builtin.append_ #[t, t] ty #[v, .slice A m c]).run P w = .ok v' w' ∧ w'.ownsRow base e size v' (n + m) (xs ++ news) ∧ w.grownBy w' v.ownBlock ∧
      (v'.ownBlock = v.ownBlock ∨ v'.ownBlock = some w.heap.size) := by
  rcases A with _ | ad
  · rcases hr with hr | ⟨_, _, hr, _⟩
    · subst hr
      have hm0 : m = 0 := by
        rcases Nat.eq_zero_or_pos m with h | h
        · exact h
        · have := Nat.mul_pos h hsz
          simp at hl
          omega
      subst hm0
      refine ⟨v, w, ?_, by simpa using hown, World.grownBy.refl w _, .inl rfl⟩
      rcases hown.2 with ⟨rfl, rfl⟩ | ⟨g, cap, cur, rfl, _, _, hnc, _⟩
      · simp [Builtin.append_, run_underlying ht, sizeOf, typeInfo, hi, Builtin.lenOf, Builtin.firstCells]
      · simp [Builtin.append_, run_underlying ht, sizeOf, typeInfo, hi, Builtin.lenOf, Builtin.firstCells, hnc, storeCells]
    · cases hr
  · have hcells : ∀ j u, news[j]? = some u → w.cell? (ad.add j) = some u := by
      intro j u hu
      rcases hr with hr | ⟨b, off, hA, hc⟩
      · subst hr; simp at hu
      · cases hA
        rw [addr_add]
        exact hc j u hu
    obtain ⟨v', w', hrun, h2, h3, _, h5⟩ := run_append_own_at (P := P) w base t ty e i z size bytes ht hi hz hsize hby hzs hsz v n xs hown ad m c news hl hcells h1 hm hbytes hbase
    exact ⟨v', w', hrun, h2, h3, h5⟩

theorem wp_append_rd {o : Oper} {a : Act} {K : Act → World → Prop} {Q : Exit → Act → World → Prop} (s x : Operand) (t : TypeId)
    (ho : o.op = .call { callee := .builtin .append, args := #[s, x], argTypes := #[t, t] })
    (base : Nat) (e : TypeId) (i : TypeInfo) (z : Value) (size bytes : Nat) (ht : P.underlying t = some (.slice e)) (hi : P.info? e = some i) (hz : i.zero = some z)
    (hsize : i.size = size) (hby : i.bytes = bytes) (hzs : z.cells.size = size) (hsz : 0 < size)
    (v : Value) (n : Nat) (xs : List Value) (hs : a.eval s = v) (hown : w.ownsRow base e size v n xs)
    (A : Option Addr) (m c : Nat) (news : List Value) (hx : a.eval x = .slice A m c) (hl : news.length = m * size) (hr : Rd w A news) (h1 : ∀ u ∈ news, u.oneCell' = true)
    (hm : n + m ≤ maxLen) (hbytes : (n + m) * bytes ≤ 140737488355328) (hbase : base ≤ w.heap.size)
    (h : ∀ v' w', w'.ownsRow base e size v' (n + m) (xs ++ news) → w.grownBy w' v.ownBlock → (v'.ownBlock = v.ownBlock ∨ v'.ownBlock = some w.heap.size) → K (a.put o.dst v') w') : o.wp P a w K Q := by
  obtain ⟨v', w', hrun, h2, h3, h4⟩ := run_append_rd (P := P) w base t o.type e i z size bytes ht hi hz hsize hby hzs hsz v n xs hown A m c news hl hr h1 hm hbytes hbase
  unfold Oper.wp execOp
  simp only [ho, resolve, invoke, builtin, Sem.run_bind, Sem.run_pure, Result.andThen_ok, List.map_toArray, List.map_cons, List.map_nil, hs, hx, hrun]
  exact h v' w' h2 h3 h4

theorem wpList_append_rd {ops : Array Oper} {rest : List Oper} {o : Oper} {a : Act} {Q : Exit → Act → World → Prop} (hgd : o.guard = none) (s x : Operand) (t : TypeId)
    (ho : o.op = .call { callee := .builtin .append, args := #[s, x], argTypes := #[t, t] })
    (base : Nat) (e : TypeId) (i : TypeInfo) (z : Value) (size bytes : Nat) (ht : P.underlying t = some (.slice e)) (hi : P.info? e = some i) (hz : i.zero = some z)
    (hsize : i.size = size) (hby : i.bytes = bytes) (hzs : z.cells.size = size) (hsz : 0 < size)
    (v : Value) (n : Nat) (xs : List Value) (hs : a.eval s = v) (hown : w.ownsRow base e size v n xs)
    (A : Option Addr) (m c : Nat) (news : List Value) (hx : a.eval x = .slice A m c) (hl : news.length = m * size) (hr : Rd w A news) (h1 : ∀ u ∈ news, u.oneCell' = true)
    (hm : n + m ≤ maxLen) (hbytes : (n + m) * bytes ≤ 140737488355328) (hbase : base ≤ w.heap.size)
    (h : ∀ v' w', w'.ownsRow base e size v' (n + m) (xs ++ news) → w.grownBy w' v.ownBlock → (v'.ownBlock = v.ownBlock ∨ v'.ownBlock = some w.heap.size) → wpList P ops Q rest (a.put o.dst v') w') : wpList P ops Q (o :: rest) a w :=
  wpList_plain hgd fun _ hK => wp_append_rd w s x t ho base e i z size bytes ht hi hz hsize hby hzs hsz v n xs hs hown A m c news hx hl hr h1 hm hbytes hbase fun v' w' h2 h3 h4 => hK _ _ (h v' w' h2 h3 h4)
end

theorem info_u8 : (Tryd.prog.info? 5).map (fun i => (i.zero, i.size, i.bytes)) = some (some (.int .u8 0), 1, 1) := by kernel_rfl

/-- the slice value v is the call's own row of the bytes xs -/
def OwnB (w : World) (base : Nat) (v : Value) (xs : List UInt8) : Prop := w.ownsRow base 5 1 v xs.length (xs.map bv)

theorem bv_one (xs : List UInt8) : ∀ u ∈ xs.map bv, u.oneCell' = true := by
  intro u hu
  simp only [List.mem_map] at hu
  obtain ⟨b, _, rfl⟩ := hu
  rfl

theorem Rd.one (w : World) (x : Value) (t : TypeId) : Rd (w.alloc (.cells #[x] t)) (some ⟨w.heap.size, 0, none⟩) [x] := by
  refine .inr ⟨_, _, rfl, fun j u hu => ?_⟩
  have := cell_one_new w x t j u hu
  rwa [addr_add] at this
theorem OwnB.rd {w : World} {base : Nat} {A : Option Addr} {n c : Nat} {xs : List UInt8} (h : OwnB w base (.slice A n c) xs) : Rd w A (xs.map bv) := by
  unfold OwnB at h
  rcases h.2 with ⟨e, e0⟩ | ⟨g, cap, cur, e, hb, hg, _⟩
  · have : xs = [] := List.eq_nil_of_length_eq_zero e0
    subst this
    exact .inl rfl
  · injection e with e1 e2 e3
    subst e1
    refine .inr ⟨_, _, rfl, fun j u hu => ?_⟩
    have := h.cells (g := g) rfl j u hu
    rwa [addr_add] at this
theorem OwnB.form {w : World} {base : Nat} {v : Value} {xs : List UInt8} (h : OwnB w base v xs) : ∃ A c, v = .slice A xs.length c ∧ xs.length ≤ c ∧ c ≤ maxLen := by
  unfold OwnB at h
  rcases h.2 with ⟨e, e0⟩ | ⟨g, cap, cur, e, hb, hg, hc, hm, _⟩
  · exact ⟨none, 0, by rw [e, e0], by omega, by simp [maxLen]⟩
  · exact ⟨_, cap, e, hc, hm⟩
theorem OwnB.formN {w : World} {base : Nat} {v : Value} {xs : List UInt8} (h : OwnB w base v xs) (n : Nat) (hn : xs.length = n) : ∃ A c, v = .slice A n c ∧ n ≤ c ∧ c ≤ maxLen := by
  subst hn
  exact h.form
theorem OwnB.nil (w : World) (base : Nat) : OwnB w base (.slice none 0 0) [] := World.ownsRow_nil w base _ _
theorem OwnB.made (w : World) (base : Nat) (hb : base ≤ w.heap.size) (cur : Array Value) (cap : Nat) (hm : cap ≤ maxLen) (hs : cur.size = cap) :
    OwnB (w.alloc (.cells cur 5)) base (.slice (some ⟨w.heap.size, 0, none⟩) 0 cap) [] :=
  World.ownsRow_made w cur cap hb hm (by omega)
theorem OwnB.below {w w' : World} {base : Nat} {v : Value} {xs : List UInt8} (h : OwnB w base v xs) (hb : Below w.heap.size w w') : OwnB w' base v xs := by
  unfold OwnB at h ⊢
  exact h.kept (row := none) ⟨hb.os, hb.tape, hb.output, hb.size, fun k hk _ => hb.block k hk⟩ (by cases v.ownBlock <;> simp)
theorem OwnB.alloc {w : World} {base : Nat} {v : Value} {xs : List UInt8} (h : OwnB w base v xs) (o : Obj) : OwnB (w.alloc o) base v xs := World.ownsRow.alloc h o
theorem OwnB.lt {w : World} {base : Nat} {v : Value} {xs : List UInt8} (h : OwnB w base v xs) : ∀ k, v.ownBlock = some k → base ≤ k ∧ k < w.heap.size := World.ownsRow.lt h
/-- behind an append of the call's own -/
theorem below_app {w0 w w' : World} {base : Nat} {v : Value} {xs : List UInt8} (hb : Below base w0 w) (h : OwnB w base v xs) (hg : w.grownBy w' v.ownBlock) (hbase : base ≤ w.heap.size) : Below base w0 w' :=
  hb.grown hg hbase fun k hk => (h.lt k hk).1

/-- 'append(s, x..)' of bytes: s is the call's own (or nil); x whatever reads as bytes. -/
theorem wpList_appB {w0 w : World} {base : Nat} {v : Value} {xs : List UInt8} (hown : OwnB w base v xs) (hb : Below base w0 w) (hbase : base ≤ w.heap.size)
    {A : Option Addr} {bs : List UInt8} (m c : Nat) (hr : Rd w A (bs.map bv)) (hl : bs.length = m) (hm : xs.length + m ≤ 140737488355328)
    {ops : Array Oper} {rest : List Oper} {o : Oper} {a : Act} {Q : Exit → Act → World → Prop} (hgd : o.guard = none) (s x : Operand)
    (ho : o.op = .call { callee := .builtin .append, args := #[s, x], argTypes := #[37, 37] })
    (hs : a.eval s = v) (hx : a.eval x = .slice A m c)
    (h : ∀ v' w', OwnB w' base v' (xs ++ bs) → Below base w0 w' → w.heap.size ≤ w'.heap.size → w.grownBy w' v.ownBlock → wpList Tryd.prog ops Q rest (a.put o.dst v') w') : wpList Tryd.prog ops Q (o :: rest) a w := by
  obtain ⟨i0, hi, hz0, hz1, hz2⟩ := info_parts info_u8
  refine wpList_append_rd w hgd s x 37 ho base 5 i0 (.int .u8 0) 1 1 Tryd.underlying37 hi hz0 hz1 hz2 rfl (by decide) v xs.length (xs.map bv) hs hown
    A m c (bs.map bv) hx (by simp [hl]) hr (bv_one bs) (by simp only [maxLen]; omega) (by omega) hbase ?_
  intro v' w' h1 h2 h3
  refine h v' w' ?_ (below_app hb hown h2 hbase) h2.size h2
  unfold OwnB
  rw [List.length_append, List.map_append, hl]
  exact h1
/-- 'append(s, b)' of one byte. -/
theorem wpList_appB1 {w0 w : World} {base : Nat} {v : Value} {xs : List UInt8} (hown : OwnB w base v xs) (hb : Below base w0 w) (hbase : base ≤ w.heap.size)
    (b : UInt8) {y : Int} (hy : y = b.toNat) (hm : xs.length + 1 ≤ 140737488355328)
    {ops : Array Oper} {rest : List Oper} {o : Oper} {a : Act} {Q : Exit → Act → World → Prop} (hgd : o.guard = none) (s x : Operand)
    (ho : o.op = .call { callee := .builtin .append, args := #[s, x], argTypes := #[37, 37] })
    (hs : a.eval s = v) (hx : a.eval x = .slice (some ⟨w.heap.size, 0, none⟩) 1 1)
    (h : ∀ v' w', OwnB w' base v' (xs ++ [b]) → Below base w0 w' → w.heap.size ≤ w'.heap.size → wpList Tryd.prog ops Q rest (a.put o.dst v') w') : wpList Tryd.prog ops Q (o :: rest) a (w.alloc (.cells #[.int .u8 y] 5)) := by
  subst hy
  refine wpList_appB (hown.alloc _) (hb.alloc hbase _) (by simp; omega) (bs := [b]) 1 1 (Rd.one _ _ _) rfl hm hgd s x ho hs hx ?_
  intro v' w' h1 h2 h3 _
  exact h v' w' h1 h2 (by simp at h3; omega)
end Go.Proofs.YtjgdmpbaikhflaaDoor
/- Frames: which blocks a call may have written; a variable that holds a growing row of bytes. -/
namespace Go.Proofs.YtjgdmpbaikhflaaDoor
open Go.RowKit

/-- All blocks that were there and are not of S are as they were. -/
structure Fr (S : Nat → Prop) (w w' : World) : Prop where
  os : w'.os = w.os
  tape : w'.tape = w.tape
  output : w'.output = w.output
  size : w.heap.size ≤ w'.heap.size
  block : ∀ k, k < w.heap.size → ¬ S k → w'.heap[k]? = w.heap[k]?
theorem Fr.refl (S : Nat → Prop) (w : World) : Fr S w w := ⟨rfl, rfl, rfl, Nat.le_refl _, fun _ _ _ => rfl⟩
theorem Fr.trans {S : Nat → Prop} {a b c : World} (h : Fr S a b) (k : Fr S b c) : Fr S a c :=
  ⟨k.os.trans h.os, k.tape.trans h.tape, k.output.trans h.output, Nat.le_trans h.size k.size, fun i hi hs => (k.block i (Nat.lt_of_lt_of_le hi h.size) hs).trans (h.block i hi hs)⟩
theorem Fr.weaken {S T : Nat → Prop} {w w' : World} (h : Fr S w w') (hst : ∀ k, k < w.heap.size → S k → T k) : Fr T w w' :=
  ⟨h.os, h.tape, h.output, h.size, fun k hk hs => h.block k hk fun hs' => hs (hst k hk hs')⟩
theorem Below.fr {S : Nat → Prop} {w w' : World} (h : Below w.heap.size w w') : Fr S w w' := ⟨h.os, h.tape, h.output, h.size, fun k hk _ => h.block k hk⟩
theorem Fr.below {S : Nat → Prop} {B : Nat} {w w' : World} (h : Fr S w w') (hs : ∀ k, S k → B ≤ k) (hB : B ≤ w.heap.size) : Below B w w' :=
  ⟨h.os, h.tape, h.output, h.size, fun k hk => h.block k (by omega) fun h' => by have := hs k h'; omega⟩
theorem Fr.av {S : Nat → Prop} {w w' : World} {g : Nat} {t : TypeId} {l : List Value} (h : Fr S w w') (ha : Av w g t l) (hg : ¬ S g) : Av w' g t l := ha.same (h.block g ha.lt hg)
theorem Fr.rd {S : Nat → Prop} {w w' : World} {A : Option Addr} {xs : List Value} (h : Fr S w w') (hr : Rd w A xs) (hA : ∀ a, A = some a → ¬ S a.block) : Rd w' A xs := by
  rcases hr with e | ⟨b, off, e, hc⟩
  · exact .inl e
  · exact .inr ⟨b, off, e, fun j u hu => (World.cell?_of_block (a := ⟨b, off + j, none⟩) (h.block b (World.block_lt_of_cell? w _ (hc j u hu)) (hA _ e))).trans (hc j u hu)⟩
theorem Fr.setCell (w : World) (a : Addr) (v : Value) : Fr (fun k => k = a.block) w (w.setCell a v) :=
  ⟨by simp [World.setCell], by simp [World.setCell], by simp [World.setCell], by simp, fun k _ hk => heap_setCell_other w a k v hk⟩
theorem Fr.of_grown {w w' : World} {row : Option Nat} (h : w.grownBy w' row) : Fr (fun k => some k = row) w w' := ⟨h.os, h.tape, h.output, h.size, fun k hk hs => h.block k hk hs⟩
theorem OwnB.fr {S : Nat → Prop} {w w' : World} {base : Nat} {v : Value} {bs : List UInt8} (ho : OwnB w base v bs) (h : Fr S w w') (hv : ∀ k, v.ownBlock = some k → ¬ S k) : OwnB w' base v bs := by
  unfold OwnB at ho ⊢
  refine ⟨ho.1, ho.2.imp id ?_⟩
  rintro ⟨g, cap, cur, rfl, hb, hg, hrest⟩
  refine ⟨g, cap, cur, rfl, hb, ?_, hrest⟩
  rw [h.block g (Array.getElem?_eq_some_iff.1 hg).1 (hv g rfl)]
  exact hg
/-- a row grows: it stays where it lies, or lies in new memory -/
def RowTo (w : World) (v v' : Value) : Prop := v'.ownBlock = v.ownBlock ∨ ∃ k, v'.ownBlock = some k ∧ w.heap.size ≤ k
/-- block g holds the slice v of the call's own bytes bs, which lie elsewhere, at or beyond base -/
structure Buf (w : World) (g base : Nat) (v : Value) (bs : List UInt8) : Prop where
  av : Av w g 37 [v]
  own : OwnB w base v bs
  ne : v.ownBlock ≠ some g
/-- what a call that writes to such a row leaves -/
structure BufTo (g base : Nat) (w : World) (v : Value) (w' : World) (v' : Value) (bs' : List UInt8) : Prop where
  buf : Buf w' g base v' bs'
  row : RowTo w v v'
  fr : Fr (fun k => k = g ∨ v.ownBlock = some k) w w'
theorem Buf.to {w : World} {g base : Nat} {v : Value} {bs : List UInt8} (h : Buf w g base v bs) : BufTo g base w v w v bs := ⟨h, .inl rfl, Fr.refl _ _⟩
theorem BufTo.trans {g base : Nat} {w w' w'' : World} {v v' v'' : Value} {b1 b2 : List UInt8} (h : BufTo g base w v w' v' b1) (k : BufTo g base w' v' w'' v'' b2) : BufTo g base w v w'' v'' b2 := by
  refine ⟨k.buf, ?_, ?_⟩
  · rcases k.row with e | ⟨q, e, hq⟩
    · rcases h.row with e' | ⟨q, e', hq⟩
      · exact .inl (e.trans e')
      · exact .inr ⟨q, e.trans e', hq⟩
    · exact .inr ⟨q, e, Nat.le_trans h.fr.size hq⟩
  · refine ⟨k.fr.os.trans h.fr.os, k.fr.tape.trans h.fr.tape, k.fr.output.trans h.fr.output, Nat.le_trans h.fr.size k.fr.size, fun i hi hs => (k.fr.block i (Nat.lt_of_lt_of_le hi h.fr.size) ?_).trans (h.fr.block i hi hs)⟩
    rintro (e | e)
    · exact hs (.inl e)
    · rcases h.row with e' | ⟨q, e', hq⟩
      · exact hs (.inr (e'.symm.trans e))
      · rw [e'] at e; injection e with e; omega
theorem Buf.fr {S : Nat → Prop} {w w' : World} {g base : Nat} {v : Value} {bs : List UInt8} (h : Buf w g base v bs) (f : Fr S w w') (hg : ¬ S g) (hv : ∀ k, v.ownBlock = some k → ¬ S k) : Buf w' g base v bs :=
  ⟨f.av h.av hg, h.own.fr f hv, h.ne⟩
theorem Buf.below {w w' : World} {g base : Nat} {v : Value} {bs : List UInt8} (h : Buf w g base v bs) (f : Below w.heap.size w w') : Buf w' g base v bs :=
  ⟨h.av.below f, h.own.below f, h.ne⟩
/-- behind an append and the store of the new slice -/
theorem Buf.app {w w1 : World} {g base : Nat} {v v1 : Value} {bs bs1 : List UInt8} (h : Buf w g base v bs) (ho : OwnB w1 base v1 bs1) (hg : w.grownBy w1 v.ownBlock) (hr : v1.ownBlock = v.ownBlock ∨ v1.ownBlock = some w.heap.size) :
    BufTo g base w v (w1.setCell ⟨g, 0, none⟩ v1) v1 bs1 := by
  have hlt := h.av.lt
  have hne : v1.ownBlock ≠ some g := by
    rcases hr with e | e
    · rw [e]; exact h.ne
    · rw [e]; intro e'; injection e'; omega
  have a1 : Av w1 g 37 [v] := h.av.same (hg.block g hlt fun e => h.ne e.symm)
  refine ⟨⟨a1.set 0 _, ho.fr (Fr.setCell _ _ _) (fun k e e' => hne (by rw [e, e'])), hne⟩, hr.imp id fun e => ⟨_, e, Nat.le_refl _⟩, ?_⟩
  refine ((Fr.of_grown hg).weaken fun k _ e => .inr e.symm).trans ((Fr.setCell w1 ⟨g, 0, none⟩ v1).weaken fun k _ e => .inl e)
theorem BufTo.below {g base : Nat} {w w1 w2 : World} {v v' : Value} {bs' : List UInt8} (h : BufTo g base w v w1 v' bs') (b : Below w1.heap.size w1 w2) : BufTo g base w v w2 v' bs' :=
  ⟨h.buf.below b, h.row, h.fr.trans (Below.fr b)⟩
theorem OwnB.formE {w : World} {base : Nat} {v : Value} {xs : List UInt8} (h : OwnB w base v xs) : ∃ q A c, v = .slice A q c := by
  obtain ⟨A, c, e, _⟩ := h.form
  exact ⟨_, A, c, e⟩
/-- 'append(s, x..)' of bytes onto a row of the call's own: where the new one lies -/
theorem wpList_appV {w : World} {base : Nat} {v : Value} {xs : List UInt8} (hown : OwnB w base v xs) (hbase : base ≤ w.heap.size)
    {A : Option Addr} {bs : List UInt8} (m c : Nat) (hr : Rd w A (bs.map bv)) (hl : bs.length = m) (hm : xs.length + m ≤ 140737488355328)
    {ops : Array Oper} {rest : List Oper} {o : Oper} {a : Act} {Q : Exit → Act → World → Prop} (hgd : o.guard = none) (s x : Operand)
    (ho : o.op = .call { callee := .builtin .append, args := #[s, x], argTypes := #[37, 37] })
    (hs : a.eval s = v) (hx : a.eval x = .slice A m c)
    (h : ∀ v' w', OwnB w' base v' (xs ++ bs) → w.grownBy w' v.ownBlock → (v'.ownBlock = v.ownBlock ∨ v'.ownBlock = some w.heap.size) → wpList Tryd.prog ops Q rest (a.put o.dst v') w') : wpList Tryd.prog ops Q (o :: rest) a w := by
  obtain ⟨i0, hi, hz0, hz1, hz2⟩ := info_parts info_u8
  refine wpList_append_rd w hgd s x 37 ho base 5 i0 (.int .u8 0) 1 1 Tryd.underlying37 hi hz0 hz1 hz2 rfl (by decide) v xs.length (xs.map bv) hs hown
    A m c (bs.map bv) hx (by simp [hl]) hr (bv_one bs) (by simp only [maxLen]; omega) (by omega) hbase ?_
  intro v' w' h1 h2 h3
  refine h v' w' ?_ h2 h3
  unfold OwnB
  rw [List.length_append, List.map_append, hl]
  exact h1
theorem OwnB.low {w : World} {b base : Nat} {v : Value} {xs : List UInt8} (h : OwnB w base v xs) (hb : b ≤ base) : OwnB w b v xs := by
  unfold OwnB at h ⊢
  refine ⟨h.1, h.2.imp id ?_⟩
  rintro ⟨g, cap, cur, e, hg, hrest⟩
  exact ⟨g, cap, cur, e, Nat.le_trans hb hg, hrest⟩
/-- a slice is stored into a cell of the call's own -/
theorem wpList_storeS {P : Program} {ops : Array Oper} {rest : List Oper} {o : Oper} {a : Act} {w : World} {Q : Exit → Act → World → Prop} {g i : Nat} {t : TypeId} {l : List Value} (hgd : o.guard = none) (ty : TypeId) (x y : Operand) (ho : o.op = .store ty x y)
    (hx : a.eval x = .pointer (some ⟨g, i, none⟩)) (h : Av w g t l) (hi : i < l.length) (A : Option Addr) (n c : Nat) (hy : a.eval y = .slice A n c) (hs : (P.info? ty).map (·.size) = some 1) (k : wpList P ops Q rest (a.put o.dst undef) (w.setCell ⟨g, i, none⟩ (.slice A n c))) : wpList P ops Q (o :: rest) a w := by
  refine wpList_plain hgd fun _ hK => ?_
  have hc := h.cell i _ (List.getElem?_eq_getElem hi)
  have hf := frozen_of_row w g i _ t h
  obtain ⟨i0, hi0, hz0⟩ := Option.map_eq_some_iff.1 hs
  have hsz : ∀ w, (sizeOf ty).run P w = .ok 1 w := fun w => by simp [sizeOf, typeInfo, hi0, hz0]
  unfold Oper.wp execOp
  simp only [ho, hx, hy]
  go_simp
  exact hK _ _ k
end Go.Proofs.YtjgdmpbaikhflaaDoor
