import Derived.Test.YtobjgebojhjhnaaDoorQr7
import Derived.Test.YtobjgebojhjhnaaDoorQr10
import Derived.Test.YtobjgebojhjhnaaDoorQr11
import Derived.Test.YtobjgebojhjhnaaDoorQr5
import Derived.Maps.OwnSet
import Derived.DeepKeys4
namespace Go.Proofs.YtobjgebojhjhnaaDoor
open Go.RowKit
structure Nd where
 id : List UInt8
 head : Hd
 par : Int
 hgt : Nat
 wrk : Nat
def mWork (b : Nat) : Nat := match mExp b with
 | none => 0
 | some t => if 115792089237316195423570985008687907853269984665640564039457584007913129639936 ≤ t + 1 then 1 else ((115792089237316195423570985008687907853269984665640564039457584007913129639935 - t) / (t + 1) + 1) % 115792089237316195423570985008687907853269984665640564039457584007913129639936
def tFind (ns : List Nd) (x : List UInt8) : Option Nat := ns.findIdx? fun n => n.id == x
def mNode (ns : List Nd) (h : Hd) : Option Nd :=
 if ns.length = 0 then some ⟨hdId h, h, -1, 0, mWork h.bits⟩
 else match tFind ns h.prev with
  | none => none
  | some i => match ns[i]? with
   | none => none
   | some n => some ⟨hdId h, h, (i : Int), n.hgt + 1, (n.wrk + mWork h.bits) % 115792089237316195423570985008687907853269984665640564039457584007913129639936⟩
def mAdd (most : Nat) (ns : List Nd) (h : Hd) : List Nd × Int × Nat :=
 match tFind ns (hdId h) with
 | some i => (ns, (i : Int), 10)
 | none => match mNode ns h with
  | none => (ns, -1, 9)
  | some n => if most ≤ ns.length then (ns, -1, 12) else (ns ++ [n], (ns.length : Int), 0)
structure TOk (ns : List Nd) : Prop where
 head : ∀ (k : Nat) (n : Nd), ns[k]? = some n → n.head.ok ∧ n.id = hdId n.head ∧ n.wrk < 115792089237316195423570985008687907853269984665640564039457584007913129639936
 root : ∀ n : Nd, ns[0]? = some n → n.par = -1 ∧ n.hgt = 0 ∧ n.wrk = mWork n.head.bits
 step : ∀ (k : Nat) (n : Nd), ns[k]? = some n → k ≠ 0 → ∃ (p : Nat) (m : Nd), n.par = (p : Int) ∧ p < k ∧ ns[p]? = some m ∧ n.hgt = m.hgt + 1 ∧ n.wrk = (m.wrk + mWork n.head.bits) % 115792089237316195423570985008687907853269984665640564039457584007913129639936 ∧ n.head.prev = m.id
 apart : ∀ (i j : Nat) (n m : Nd), ns[i]? = some n → ns[j]? = some m → n.id = m.id → i = j
theorem mWork_lt (b : Nat) : mWork b < 115792089237316195423570985008687907853269984665640564039457584007913129639936 := by
 unfold mWork
 split
 ·omega
 ·split
  ·omega
  ·exact Nat.mod_lt _ (by omega)
theorem tFind_some {ns : List Nd} {x : List UInt8} {i : Nat} (h : tFind ns x = some i) : ∃ n, ns[i]? = some n ∧ n.id = x := by
 unfold tFind at h
 rw [List.findIdx?_eq_some_iff_getElem] at h
 obtain ⟨hi, h1, _⟩ := h
 exact ⟨ns[i], List.getElem?_eq_getElem hi, by simpa using h1⟩
theorem tFind_none {ns : List Nd} {x : List UInt8} (h : tFind ns x = none) : ∀ (i : Nat) (n : Nd), ns[i]? = some n → n.id ≠ x := by
 intro i n hi e
 unfold tFind at h
 rw [List.findIdx?_eq_none_iff] at h
 have := h n (List.mem_of_getElem? hi)
 simp [e] at this
theorem tFind_lt {ns : List Nd} {x : List UInt8} {i : Nat} (h : tFind ns x = some i) : i < ns.length := by
 obtain ⟨n, hn, _⟩ := tFind_some h
 exact (List.getElem?_eq_some_iff.1 hn).1
theorem TOk.nil : TOk [] := ⟨by simp, by simp, by simp, by simp⟩
theorem mNode_id {ns : List Nd} {h : Hd} {n : Nd} (e : mNode ns h = some n) : n.id = hdId h ∧ n.head = h ∧ n.wrk < 115792089237316195423570985008687907853269984665640564039457584007913129639936 := by
 unfold mNode at e
 generalize hdId h = I at *
 split at e
 ·have e := Option.some.inj e
  subst e
  exact ⟨rfl, rfl, mWork_lt _⟩
 ·split at e
  ·cases e
  ·split at e
   ·cases e
   ·have e := Option.some.inj e
    subst e
    refine ⟨rfl, rfl, ?_⟩
    dsimp only
    exact Nat.mod_lt _ (by omega)
theorem snoc_at {α : Type} {l : List α} {x y : α} {k : Nat} (h : (l ++ [x])[k]? = some y) : (l[k]? = some y ∧ k < l.length) ∨ (k = l.length ∧ y = x) := by
 by_cases hk : k < l.length
 ·rw [List.getElem?_append_left hk] at h
  exact .inl ⟨h, hk⟩
 ·have hl := (List.getElem?_eq_some_iff.1 h).1
  rw [List.length_append, List.length_singleton] at hl
  have : k = l.length := by omega
  subst this
  simp at h
  exact .inr ⟨rfl, h.symm⟩
theorem snoc_left {α : Type} {l : List α} {x y : α} {k : Nat} (h : l[k]? = some y) : (l ++ [x])[k]? = some y := by
 rw [List.getElem?_append_left (List.getElem?_eq_some_iff.1 h).1]; exact h
theorem TOk.snoc {ns : List Nd} (ok : TOk ns) {h : Hd} (hh : h.ok) {n : Nd} (e : mNode ns h = some n) (hf : tFind ns (hdId h) = none) : TOk (ns ++ [n]) := by
 obtain ⟨e1, e2, e3⟩ := mNode_id e
 have hno := tFind_none hf
 constructor
 ·intro k m hm
  rcases snoc_at hm with ⟨h1, _⟩ | ⟨_, rfl⟩
  ·exact ok.head k m h1
  ·exact ⟨by rw [e2]; exact hh, by rw [e1, e2], e3⟩
 ·intro m hm
  rcases snoc_at hm with ⟨h1, _⟩ | ⟨h1, rfl⟩
  ·exact ok.root m h1
  ·unfold mNode at e
   rw [if_pos h1.symm] at e
   obtain rfl := Option.some.inj e; exact ⟨rfl, rfl, rfl⟩
 ·intro k m hm hk
  rcases snoc_at hm with ⟨h1, _⟩ | ⟨h1, rfl⟩
  ·obtain ⟨p, q, a, b, c, d⟩ := ok.step k m h1 hk
   exact ⟨p, q, a, b, snoc_left c, d⟩
  ·unfold mNode at e
   rw [if_neg (by omega)] at e
   split at e
   ·cases e
   ·rename_i i hi
    obtain ⟨q, hq, hqi⟩ := tFind_some hi
    rw [hq] at e
    obtain rfl := Option.some.inj e
    exact ⟨i, q, rfl, by have := tFind_lt hi; omega, snoc_left hq, rfl, rfl, hqi.symm⟩
 ·intro i j a b ha hb hab
  rcases snoc_at ha with ⟨h1, _⟩ | ⟨h1, rfl⟩ <;> rcases snoc_at hb with ⟨h2, _⟩ | ⟨h2, rfl⟩
  ·exact ok.apart i j a b h1 h2 hab
  ·exact absurd (hab.trans e1) (hno i a h1)
  ·exact absurd (hab.symm.trans e1) (hno j b h2)
  ·omega
theorem mAdd_ok {most : Nat} {ns : List Nd} (ok : TOk ns) {h : Hd} (hh : h.ok) : TOk (mAdd most ns h).1 := by
 unfold mAdd
 split
 ·exact ok
 ·split
  ·exact ok
  ·rename_i hf _ n hn
   split
   ·exact ok
   ·exact ok.snoc hh hn hf
def mAll (most : Nat) (l : List Hd) : List Nd := l.foldl (fun ns h => (mAdd most ns h).1) []
theorem mAll_snoc (most : Nat) (l : List Hd) (h : Hd) : mAll most (l ++ [h]) = (mAdd most (mAll most l) h).1 := by simp [mAll]
theorem mAdd_len (most : Nat) (ns : List Nd) (h : Hd) : (mAdd most ns h).1.length ≤ ns.length + 1 := by
 unfold mAdd
 repeat' split
 all_goals simp
theorem mAll_ok (most : Nat) (l : List Hd) (hl : ∀ h ∈ l, h.ok) : TOk (mAll most l) := by
 have : ∀ (l : List Hd) (ns : List Nd), (∀ h ∈ l, h.ok) → TOk ns → TOk (l.foldl (fun ns h => (mAdd most ns h).1) ns) := by
  intro l
  induction l with
  | nil => intro ns _ h; exact h
  | cons x l ih => intro ns h1 h2; exact ih _ (fun y hy => h1 y (List.mem_cons_of_mem _ hy)) (mAdd_ok h2 (h1 x List.mem_cons_self))
 exact this l [] hl TOk.nil
theorem mAll_take (most : Nat) (l : List Hd) (k : Nat) (h : Hd) (hk : l[k]? = some h) : mAll most (l.take (k + 1)) = (mAdd most (mAll most (l.take k)) h).1 := by
 rw [List.take_add_one, hk]; exact mAll_snoc _ _ _
theorem mAll_len (most : Nat) : ∀ (l : List Hd), (mAll most l).length ≤ l.length := by
 have : ∀ (l : List Hd) (ns : List Nd), (l.foldl (fun ns h => (mAdd most ns h).1) ns).length ≤ ns.length + l.length := by
  intro l
  induction l with
  | nil => intro ns; simp
  | cons x l ih => intro ns; have := ih (mAdd most ns x).1; have := mAdd_len most ns x; simp only [List.foldl_cons, List.length_cons]; omega
 intro l; simpa [mAll] using this l []
def tPar (ns : List Nd) (i : Nat) : Nat := match ns[i]? with
 | some n => n.par.toNat
 | none => 0
def tHgt (ns : List Nd) (i : Nat) : Nat := match ns[i]? with
 | some n => n.hgt
 | none => 0
def tWrk (ns : List Nd) (i : Nat) : Nat := match ns[i]? with
 | some n => n.wrk
 | none => 0
def tAnc (ns : List Nd) (i : Nat) : Nat → Nat
 | 0 => i
 | d + 1 => tPar ns (tAnc ns i d)
theorem tAt {ns : List Nd} {i : Nat} {n : Nd} (h : ns[i]? = some n) : tPar ns i = n.par.toNat ∧ tHgt ns i = n.hgt ∧ tWrk ns i = n.wrk := by
 simp [tPar, tHgt, tWrk, h]
theorem TOk.up {ns : List Nd} (ok : TOk ns) {i : Nat} (hi : i < ns.length) : (tHgt ns i = 0 ∧ i = 0) ∨ (i ≠ 0 ∧ tPar ns i < i ∧ tHgt ns i = tHgt ns (tPar ns i) + 1 ∧ tWrk ns i = (tWrk ns (tPar ns i) + mWork ((ns[i]).head.bits)) % 115792089237316195423570985008687907853269984665640564039457584007913129639936) := by
 have h := List.getElem?_eq_getElem hi
 obtain ⟨a, b, c⟩ := tAt h
 by_cases h0 : i = 0
 ·subst h0
  exact .inl ⟨by rw [b]; exact (ok.root _ h).2.1, rfl⟩
 ·obtain ⟨p, m, e1, e2, e3, e4, e5, _⟩ := ok.step i _ h h0
  obtain ⟨_, b2, c2⟩ := tAt e3
  have : tPar ns i = p := by rw [a, e1]; rfl
  rw [this]
  exact .inr ⟨h0, e2, by rw [b, b2, e4], by rw [c, c2, e5]⟩
theorem TOk.hgt_0 {ns : List Nd} (ok : TOk ns) {i : Nat} (hi : i < ns.length) : tHgt ns i = 0 ↔ i = 0 := by
 rcases ok.up hi with ⟨a, b⟩ | ⟨a, _, b, _⟩ <;> omega
theorem TOk.anc {ns : List Nd} (ok : TOk ns) {i : Nat} (hi : i < ns.length) : ∀ d, d ≤ tHgt ns i → tAnc ns i d < ns.length ∧ tHgt ns (tAnc ns i d) = tHgt ns i - d ∧ tAnc ns i d + d ≤ i
 | 0, _ => ⟨hi, by simp [tAnc], by simp [tAnc]⟩
 | d + 1, hd => by
  obtain ⟨a, b, c⟩ := ok.anc hi d (by omega)
  rcases ok.up a with ⟨e, _⟩ | ⟨_, e1, e2, _⟩
  ·omega
  ·simp only [tAnc]
   omega
theorem TOk.hgt_le {ns : List Nd} (ok : TOk ns) {i : Nat} (hi : i < ns.length) : tHgt ns i ≤ i := by
 have := (ok.anc hi _ (Nat.le_refl _)).2.2
 omega
def mLine (ns : List Nd) (i : Nat) : List Nat := (List.range (tHgt ns i + 1)).map fun k => tAnc ns i (tHgt ns i - k)
theorem mLine_length (ns : List Nd) (i : Nat) : (mLine ns i).length = tHgt ns i + 1 := by simp [mLine]
theorem mLine_at (ns : List Nd) (i k : Nat) (h : k ≤ tHgt ns i) : (mLine ns i)[k]? = some (tAnc ns i (tHgt ns i - k)) := by
 simp [mLine, List.getElem?_range (show k < tHgt ns i + 1 by omega)]
def mCom (ns : List Nd) : Nat → Nat → Nat → Nat
 | 0, i, _ => i
 | f + 1, i, j => if i = j then i else if j < i then mCom ns f (tPar ns i) j else mCom ns f i (tPar ns j)
def tIn (ns : List Nd) (c i : Nat) : Prop := ∃ d, d ≤ tHgt ns i ∧ tAnc ns i d = c
def mTip (ns : List Nd) (i : Nat) : Bool := !ns.any fun n => n.par == (i : Int)
def mTips (ns : List Nd) : List Nat := (List.range ns.length).filter (mTip ns)
def tBest (ns : List Nd) : Nat → Nat
 | 0 => 0
 | k + 1 => if tWrk ns (tBest ns k) < tWrk ns k then k else tBest ns k
def mBest (ns : List Nd) : Nat := tBest ns ns.length
def easyB (b : Nat) : Bool := decide (538968063 ≤ b) && decide (b ≤ 545259519)
end Go.Proofs.YtobjgebojhjhnaaDoor
namespace Go.Proofs.YtobjgebojhjhnaaDoor
open Go.RowKit
theorem xor_max (x : Nat) (h : x < 18446744073709551616) : 18446744073709551615 ^^^ x = 18446744073709551615 - x := by
 have h1 : (BitVec.allOnes 64 ^^^ BitVec.ofNat 64 x).toNat = 18446744073709551615 - x := by
  rw [BitVec.allOnes_xor]; simp; omega
 rw [BitVec.toNat_xor, BitVec.toNat_allOnes, BitVec.toNat_ofNat, Nat.mod_eq_of_lt (by omega)] at h1
 exact h1
theorem bits_not (x : Nat) (h : x < 18446744073709551616) : bits .xor .u64 IntKind.u64.max (x : Int) = ((18446744073709551616 - 1 - x : Nat) : Int) := by
 have e := xor_max x h
 rw [show 18446744073709551616 - 1 - x = 18446744073709551615 - x from rfl, ← e]
 unfold bits
 simp
 rw [show (IntKind.u64.max % 2 ^ IntKind.u64.bits).toNat = 18446744073709551615 from by decide, show x % 2 ^ IntKind.u64.bits = x from Nat.mod_eq_of_lt (by rw [show 2 ^ IntKind.u64.bits = 18446744073709551616 from by decide]; exact h), IntKind.wrap_u64, e]
 omega
theorem lim_not (n : Nat) (h : n < 115792089237316195423570985008687907853269984665640564039457584007913129639936) : uc (115792089237316195423570985008687907853269984665640564039457584007913129639936 - 1 - n) = uq4 (18446744073709551616 - 1 - lim n 0) (18446744073709551616 - 1 - lim n 1) (18446744073709551616 - 1 - lim n 2) (18446744073709551616 - 1 - lim n 3) := by
 have hs := lim_sum h
 have l0 := lim_lt n 0
 have l1 := lim_lt n 1
 have l2 := lim_lt n 2
 have l3 := lim_lt n 3
 obtain ⟨N, hN, hNs, q0, q1, q2, q3⟩ := lim_of (18446744073709551616 - 1 - lim n 0) (18446744073709551616 - 1 - lim n 1) (18446744073709551616 - 1 - lim n 2) (18446744073709551616 - 1 - lim n 3) (by omega) (by omega) (by omega) (by omega)
 have e : 115792089237316195423570985008687907853269984665640564039457584007913129639936 - 1 - n = N := by
  rw [hNs]
  clear q0 q1 q2 q3
  omega
 rw [e, uc, q0, q1, q2, q3]
set_option maxRecDepth 100000 in
set_option maxHeartbeats 1000000 in
theorem UNot (n : Nat) (hn : n < 115792089237316195423570985008687907853269984665640564039457584007913129639936) (w : World) :
  Calls Tryd.prog 83 #[.agg (uc n).toArray] w fun e w' => e = .returned (.agg (uc (115792089237316195423570985008687907853269984665640564039457584007913129639936 - 1 - n)).toArray) ∧ Below w.heap.size w w' := by
 rw [lim_not n hn]
 have l0 := lim_lt n 0
 have l1 := lim_lt n 1
 have l2 := lim_lt n 2
 have l3 := lim_lt n 3
 unfold uc
 generalize lim n 0 = x0 at *
 generalize lim n 1 = x1 at *
 generalize lim n 2 = x2 at *
 generalize lim n 3 = x3 at *
 have g0 := bits_not x0 l0
 have g1 := bits_not x1 l1
 have g2 := bits_not x2 l2
 have g3 := bits_not x3 l3
 have hsg : IntKind.u64.signed = false := rfl
 generalize 18446744073709551616 - 1 - x0 = y0 at *
 generalize 18446744073709551616 - 1 - x1 = y1 at *
 generalize 18446744073709551616 - 1 - x2 = y2 at *
 generalize 18446744073709551616 - 1 - x3 = y3 at *
 obtain ⟨W, hW⟩ : ∃ W, W = (w.alloc (.cells (uq4 x0 x1 x2 x3).toArray 139)).alloc (.cells #[.int .u64 0, .int .u64 0, .int .u64 0, .int .u64 0] 139) := ⟨_, rfl⟩
 obtain ⟨H, hH⟩ : ∃ H, H = w.heap.size := ⟨_, rfl⟩
 have bW : Below w.heap.size w W := by rw [hW]; exact ((Below.refl _ _).alloc (Nat.le_refl _) _).alloc (by simp) _
 have aA : Av W H 139 (uq4 x0 x1 x2 x3) := by rw [hW, hH]; exact heap_alloc2_old _ _ _
 have aR : Av W (H + 1) 139 (uq4 0 0 0 0) := by rw [hW, hH]; exact heap_alloc2_new _ _ _
 have c0 := aA.cell 0 _ rfl
 have c1 := aA.cell 1 _ rfl
 have c2 := aA.cell 2 _ rfl
 have c3 := aA.cell 3 _ rfl
 have hHw : w.heap.size ≤ H + 1 := by rw [hH]; omega
 replace hW := Lib.hid hW
 replace hH := Lib.hid hH
 go_enter Tryd.func83, Tryd.ntmps83
 go_upto_region 1 with fail
 rw [← hW.out, ← hH.out]
 go_wp2_with ((with_reducible refine wpList_storeFA 139 bW aR hHw (uq4 y0 y1 y2 y3) ?_ ?_ 4 ?_ ?_ ?_ ?_ ?_); rfl; rfl; rfl; kernel_rfl; rfl; rfl; intro w6 a6 b6 k6 z6)
 refine bodyPost_ret (results_cell_row rfl _ _ (H + 1) _ _ (0, 0) _ (by rfl) a6 Tryd.underlying139 rfl (by kernel_rfl)) rfl ⟨rfl, b6⟩
set_option maxRecDepth 100000 in
set_option maxHeartbeats 4000000 in
theorem TWork_no (b : Nat) (hb : b < 4294967296) (h : mExp b = none) (w : World) :
  Calls Tryd.prog 57 #[.int .u32 (b : Int)] w fun e w' => e = .returned (.agg (uc 0).toArray) ∧ Below w.heap.size w w' := by
 have HE := TExp b hb
 rw [expV_none h] at HE
 obtain ⟨W, hW⟩ : ∃ W, W = w.alloc (.cells #[.int .u64 0, .int .u64 0, .int .u64 0, .int .u64 0] 139) := ⟨_, rfl⟩
 obtain ⟨H, hH⟩ : ∃ H, H = w.heap.size := ⟨_, rfl⟩
 have bW : Below H w W := by rw [hW, hH]; exact (Below.refl _ _).alloc (Nat.le_refl _) _
 have aR : Av W H 139 (uq4 0 0 0 0) := by rw [hW, hH]; exact heap_alloc_new _ _
 replace HE := Lib.hid HE
 replace hW := Lib.hid hW
 replace hH := Lib.hid hH
 have z4 : uc 0 = uq4 0 0 0 0 := uc_zero
 replace z4 := Lib.hid z4
 go_enter Tryd.func57, Tryd.ntmps57
 go_upto_region 1 with fail
 rw [← hW.out, ← hH.out]
 go_upto_region 2 with (first
  | (go_at_call 80; refine (HE.out W).mono ?_; rintro e w1 ⟨rfl, b1⟩)
  | ((with_reducible refine wpList_storeF 139 ((Below.refl w1.heap.size w1).alloc (Nat.le_refl _) _) (heap_alloc_new _ _) (Nat.le_refl _) (uc 0) ?_ ?_ 4 ?_ ?_ ?_ ?_ ?_); rfl; rfl; rfl; kernel_rfl; rfl; rfl; intro w2 a2 b2 k2 z2; clear k2; replace z2 := Lib.hid z2))
 have hlt := aR.lt
 have c2 : Below H w w2 := (bW.trans (b1.mono (Nat.le_of_lt hlt))).trans (b2.mono (Nat.le_trans (Nat.le_of_lt hlt) b1.size))
 have r2 := (aR.below b1).below b2
 clear b1 b2 a2 bW aR
 go_wp2_with ((with_reducible refine wpList_storeFA 139 c2 r2 (Nat.le_refl _) (uq4 0 0 0 0) ?_ ?_ 4 ?_ ?_ ?_ ?_ ?_); rfl; rfl; rfl; kernel_rfl; rfl; rfl; intro w6 a6 b6 k6 z6; clear k6; replace z6 := Lib.hid z6)
 refine bodyPost_ret (results_cell_row rfl _ _ H _ _ (0, 0) _ (by rfl) a6 Tryd.underlying139 rfl (by kernel_rfl)) rfl ⟨by rw [z4.out], by rw [← hH.out]; exact b6⟩
set_option maxRecDepth 100000 in
set_option maxHeartbeats 4000000 in
theorem TWork_yes (b t : Nat) (hb : b < 4294967296) (h : mExp b = some t) (w : World) :
  Calls Tryd.prog 57 #[.int .u32 (b : Int)] w fun e w' => e = .returned (.agg (uc (mWork b)).toArray) ∧ Below w.heap.size w w' := by
 have HE := TExp b hb
 rw [expV_some h] at HE
 obtain ⟨ht, ht0⟩ := mExp_lt h
 obtain ⟨R, hR⟩ : ∃ R, R = mWork b := ⟨_, rfl⟩
 have hR2 : R = if 115792089237316195423570985008687907853269984665640564039457584007913129639936 ≤ t + 1 then 1 else ((115792089237316195423570985008687907853269984665640564039457584007913129639936 - 1 - t) / (t + 1) + 1) % 115792089237316195423570985008687907853269984665640564039457584007913129639936 := by rw [hR, mWork, h]
 rw [← hR]
 obtain ⟨W, hW⟩ : ∃ W, W = w.alloc (.cells #[.int .u64 0, .int .u64 0, .int .u64 0, .int .u64 0] 139) := ⟨_, rfl⟩
 obtain ⟨H, hH⟩ : ∃ H, H = w.heap.size := ⟨_, rfl⟩
 have bW : Below H w W := by rw [hW, hH]; exact (Below.refl _ _).alloc (Nat.le_refl _) _
 have aR : Av W H 139 (uq4 0 0 0 0) := by rw [hW, hH]; exact heap_alloc_new _ _
 have HO := UOf 1 (by omega)
 have HA := UAdd t 1 ht (by omega)
 obtain ⟨V, hV⟩ : ∃ V, V = (t + 1) % 115792089237316195423570985008687907853269984665640564039457584007913129639936 := ⟨_, rfl⟩
 obtain ⟨o, ho⟩ : ∃ o, o = decide (115792089237316195423570985008687907853269984665640564039457584007913129639936 ≤ t + 1) := ⟨_, rfl⟩
 rw [← hV, ← ho] at HA
 replace HE := Lib.hid HE
 replace HO := Lib.hid HO
 replace HA := Lib.hid HA
 replace hW := Lib.hid hW
 replace hH := Lib.hid hH
 replace hR := Lib.hid hR
 replace hR2 := Lib.hid hR2
 replace hV := Lib.hid hV
 replace ho := Lib.hid ho
 go_enter Tryd.func57, Tryd.ntmps57
 go_upto_region 1 with fail
 rw [← hW.out, ← hH.out]
 go_upto_region 2 with (first
  | (go_at_call 80; refine (HE.out W).mono ?_; rintro e w1 ⟨rfl, b1⟩)
  | ((with_reducible refine wpList_storeF 139 ((Below.refl w1.heap.size w1).alloc (Nat.le_refl _) _) (heap_alloc_new _ _) (Nat.le_refl _) (uc t) ?_ ?_ 4 ?_ ?_ ?_ ?_ ?_); rfl; rfl; rfl; kernel_rfl; rfl; rfl; intro w2 a2 b2 k2 z2; clear k2; replace z2 := Lib.hid z2))
 have hlt := aR.lt
 have c2 : Below H w w2 := (bW.trans (b1.mono (Nat.le_of_lt hlt))).trans (b2.mono (Nat.le_trans (Nat.le_of_lt hlt) b1.size))
 have r2 := (aR.below b1).below b2
 have hg : H < w1.heap.size := Nat.lt_of_lt_of_le hlt b1.size
 obtain ⟨G, hG⟩ : ∃ G, G = w1.heap.size := ⟨_, rfl⟩
 rw [← hG] at hg a2 ⊢
 have a3 := a2
 clear b1 b2 a2 bW aR hG
 go_upto_region 4 with fail
 refine wp_region_relO [⟨6, 5, 7, 139, uq4 0 0 0 0, uc V⟩] [] (by kernel_rfl) (by kernel_rfl) (by kernel_rfl) (by kernel_rfl) (by kernel_rfl) (by intro e he; cases he) (by simp) (by intro e he; cases he) ?_
 refine oPure rfl rfl rfl rfl (c := .agg (uc t).toArray) (fun w hw => exec_loadAv (a3.below hw.nil) _ _ rfl rfl _ 4 rfl Tryd.underlying139 rfl (by kernel_rfl)) (by simp only [Zs]; rfl) ?_
 refine oCall1 rfl rfl rfl rfl (c := .agg (uc 1).toArray) 81 #[.int .u64 1] (fun w => by go_simp) (fun w hw => (HO.out w).mono (by rintro e w' ⟨rfl, b⟩; exact ⟨rfl, b⟩)) (by simp only [Zs]; rfl) ?_
 refine oCall1 rfl rfl rfl rfl (c := .tuple #[.agg (uc V).toArray, .bool o]) 59 #[.agg (uc t).toArray, .agg (uc 1).toArray] (fun w => by go_simp) (fun w hw => (HA.out w).mono (by rintro e w' ⟨rfl, b⟩; exact ⟨rfl, b⟩)) (by simp only [Zs]; rfl) ?_
 refine oMove rfl rfl rfl rfl _ (.inl rfl) (by conv => lhs; whnf) (by simp only [Zs]; rfl) ?_
 refine oPure rfl rfl rfl rfl (c := .agg (uc V).toArray) (fun w _ => by go_simp; first | done | rfl) (by simp only [Zs]; rfl) ?_
 refine oPure rfl rfl rfl rfl (c := .bool o) (fun w _ => by go_simp; first | done | rfl) (by simp only [Zs]; rfl) ?_
 refine oAlloc rfl rfl (fun ρ w => by unfold execOp; go_simp; rfl) ?_
 refine oStore rfl rfl (fun w hw => fill_take rfl rfl fun v _ => fill_end fun b hb h0 => ?_) ?_
 ·simp at hb
  subst hb
  exact bStoreRow h0 rfl _ _ _ rfl rfl rfl 4 rfl (by kernel_rfl) rfl
 refine oMove rfl rfl rfl rfl _ (.inr rfl) (by conv => lhs; whnf) (by simp only [Zs]; rfl) ?_
 refine oEnd fun w4 hw4 => fill_take rfl rfl fun v _ => fill_end fun hJ _ => ?_
 obtain ⟨gV, hb, hB, aV⟩ := hJ.at_ ⟨6, 5, 7, 139, uq4 0 0 0 0, uc V⟩ (List.mem_cons_self ..) rfl
 simp at hb
 subst hb
 replace aV : Av w4 gV 139 (uc V) := aV
 have b4 : Below w2.heap.size w2 w4 := hw4.nil
 have c4 := c2.trans (b4.mono (Nat.le_of_lt r2.lt))
 have a4 := a3.below b4
 have r4 := r2.below b4
 have gV2 : H < gV := Nat.lt_of_lt_of_le r2.lt hB
 clear hw4 hJ r2 a3 b4 hB
 simp only [List.set_cons_succ, List.set_cons_zero]
 cases o with
 | true =>
  have hRe : R = 1 := by rw [hR2.out, if_pos (by have := ho.out; simpa using this)]
  replace hRe := Lib.hid hRe
  have hHG : H ≤ H := Nat.le_refl _
  go_wp2_with (first
   | (go_at_call 81; refine (HO.out w4).mono ?_; rintro e w5 ⟨rfl, b5⟩; have c5 := c4.trans (b5.mono (Nat.le_of_lt r4.lt)); have r5 := r4.below b5)
   | ((with_reducible refine wpList_storeFA 139 c5 r5 hHG (uc 1) ?_ ?_ 4 ?_ ?_ ?_ ?_ ?_); rfl; rfl; rfl; kernel_rfl; rfl; rfl; intro w6 a6 b6 k6 z6; clear k6; replace z6 := Lib.hid z6))
  refine bodyPost_ret (results_cell_row rfl _ _ H _ _ (0, 0) _ (by rfl) a6 Tryd.underlying139 rfl (by kernel_rfl)) rfl ⟨by rw [hRe.out], by rw [← hH.out]; exact b6⟩
 | false =>
  have hno : ¬ 115792089237316195423570985008687907853269984665640564039457584007913129639936 ≤ t + 1 := by have := ho.out; simpa using this
  have hV1 : V = t + 1 := by rw [hV.out, Nat.mod_eq_of_lt (by omega)]
  have HN := UNot t ht
  obtain ⟨N, hN⟩ : ∃ N, N = 115792089237316195423570985008687907853269984665640564039457584007913129639936 - 1 - t := ⟨_, rfl⟩
  rw [← hN] at HN
  have HD := UDiv N V (by omega) (by omega) (by omega)
  obtain ⟨q, hq⟩ : ∃ q, q = N / V := ⟨_, rfl⟩
  obtain ⟨r, hr⟩ : ∃ r, r = N % V := ⟨_, rfl⟩
  have hql : q ≤ N := by rw [hq]; exact Nat.div_le_self _ _
  have HX := UAdd q 1 (by omega) (by omega)
  obtain ⟨X, hX⟩ : ∃ X, X = (q + 1) % 115792089237316195423570985008687907853269984665640564039457584007913129639936 := ⟨_, rfl⟩
  obtain ⟨ox, hox⟩ : ∃ o, o = decide (115792089237316195423570985008687907853269984665640564039457584007913129639936 ≤ q + 1) := ⟨_, rfl⟩
  rw [← hX, ← hox] at HX
  rw [← hq, ← hr] at HD
  have hRe : R = X := by rw [hR2.out, if_neg hno, hX, hq, hN, hV1]
  replace hRe := Lib.hid hRe
  replace HN := Lib.hid HN
  replace HD := Lib.hid HD
  replace HX := Lib.hid HX
  clear hX hox hq hr hql hN hV1 hno
  go_upto_region 7 with fail
  refine wp_region_relO [⟨8, 7, 10, 139, uq4 0 0 0 0, uc q⟩, ⟨9, 8, 11, 139, uq4 0 0 0 0, uc r⟩] [] (by kernel_rfl) (by kernel_rfl) (by kernel_rfl) (by kernel_rfl) (by kernel_rfl) (by intro e he; cases he) (by simp) (by intro e he; cases he) ?_
  refine oPure rfl rfl rfl rfl (c := .agg (uc t).toArray) (fun w hw => exec_loadAv (a4.below hw.nil) _ _ rfl rfl _ 4 rfl Tryd.underlying139 rfl (by kernel_rfl)) (by simp only [Zs]; rfl) ?_
  refine oCall1 rfl rfl rfl rfl (c := .agg (uc N).toArray) 83 #[.agg (uc t).toArray] (fun w => by go_simp) (fun w hw => (HN.out w).mono (by rintro e w' ⟨rfl, b⟩; exact ⟨rfl, b⟩)) (by simp only [Zs]; rfl) ?_
  refine oPure rfl rfl rfl rfl (c := .agg (uc V).toArray) (fun w hw => exec_loadAv (aV.below hw.nil) _ _ rfl rfl _ 4 rfl Tryd.underlying139 rfl (by kernel_rfl)) (by simp only [Zs]; rfl) ?_
  refine oCall1 rfl rfl rfl rfl (c := .tuple #[.agg (uc q).toArray, .agg (uc r).toArray, .bool true]) 82 #[.agg (uc N).toArray, .agg (uc V).toArray] (fun w => by go_simp) (fun w hw => (HD.out w).mono (by rintro e w' ⟨rfl, b⟩; exact ⟨rfl, b⟩)) (by simp only [Zs]; rfl) ?_
  refine oMove rfl rfl rfl rfl _ (.inl rfl) (by conv => lhs; whnf) (by simp only [Zs]; rfl) ?_
  refine oPure rfl rfl rfl rfl (c := .agg (uc q).toArray) (fun w _ => by go_simp; first | done | rfl) (by simp only [Zs]; rfl) ?_
  refine oPure rfl rfl rfl rfl (c := .agg (uc r).toArray) (fun w _ => by go_simp; first | done | rfl) (by simp only [Zs]; rfl) ?_
  refine oPure rfl rfl rfl rfl (c := .bool true) (fun w _ => by go_simp; first | done | rfl) (by simp only [Zs]; rfl) ?_
  refine oAlloc rfl rfl (fun ρ w => by unfold execOp; go_simp; rfl) ?_
  refine oAlloc rfl rfl (fun ρ w => by unfold execOp; go_simp; rfl) ?_
  refine oStore rfl rfl (fun w hw => fill_take rfl rfl fun v _ => fill_skip rfl (fill_end fun b hb h0 => ?_)) ?_
  ·simp at hb
   subst hb
   exact bStoreRow h0 rfl _ _ _ rfl rfl rfl 4 rfl (by kernel_rfl) rfl
  refine oStore rfl rfl (fun w hw => fill_skip rfl (fill_take rfl rfl fun v _ => fill_end fun b hb h0 => ?_)) ?_
  ·simp at hb
   subst hb
   exact bStoreRow h0 rfl _ _ _ rfl rfl rfl 4 rfl (by kernel_rfl) rfl
  refine oMove rfl rfl rfl rfl _ (.inr rfl) (by conv => lhs; whnf) (by simp only [Zs]; rfl) ?_
  refine oEnd fun w5 hw5 => fill_take rfl rfl fun v _ => fill_take rfl rfl fun v' _ => fill_end fun hJ _ => ?_
  obtain ⟨g7, hb, hB, a7⟩ := hJ.at_ ⟨8, 7, 10, 139, uq4 0 0 0 0, uc q⟩ (List.mem_cons_self ..) rfl
  obtain ⟨g8, hb', _, _⟩ := hJ.at_ ⟨9, 8, 11, 139, uq4 0 0 0 0, uc r⟩ (List.mem_cons_of_mem _ (List.mem_cons_self ..)) rfl
  simp at hb hb'
  subst hb hb'
  replace a7 : Av w5 g7 139 (uc q) := a7
  have b5 : Below w4.heap.size w4 w5 := hw5.nil
  have c5 := c4.trans (b5.mono (Nat.le_of_lt r4.lt))
  have r5 := r4.below b5
  have g7H : H < g7 := Nat.lt_of_lt_of_le r4.lt hB
  have g7H' : H ≤ g7 := Nat.le_of_lt g7H
  clear hw5 hJ r4 a4 b5 hB c4 aV
  simp only [List.set_cons_succ, List.set_cons_zero]
  go_upto_region 8 with fail
  refine wp_region_relO [] [Old.one g7 139 6 (uc q) (uc X)] (by kernel_rfl) (by kernel_rfl) (by kernel_rfl) (by kernel_rfl) (by kernel_rfl) (by intro e he; simp only [List.mem_cons, List.not_mem_nil, or_false] at he; subst he; exact Old.one_con _ _ _ _ _) (by simp) (by intro e he; simp only [List.mem_cons, List.not_mem_nil, or_false] at he; subst he; exact a7) ?_
  refine oPureJ rfl rfl rfl rfl (c := .agg (uc q).toArray) (fun w hw hJ => exec_loadAv (JN.one hJ (List.mem_cons_self ..) rfl rfl) _ _ rfl rfl _ 4 rfl Tryd.underlying139 rfl (by kernel_rfl)) (by simp only [Zs]; rfl) ?_
  refine oCall1 rfl rfl rfl rfl (c := .agg (uc 1).toArray) 81 #[.int .u64 1] (fun w => by go_simp) (fun w hw => (HO.out w).mono (by rintro e w' ⟨rfl, b⟩; exact ⟨rfl, b⟩)) (by simp only [Zs]; rfl) ?_
  refine oCall1 rfl rfl rfl rfl (c := .tuple #[.agg (uc X).toArray, .bool ox]) 59 #[.agg (uc q).toArray, .agg (uc 1).toArray] (fun w => by go_simp) (fun w hw => (HX.out w).mono (by rintro e w' ⟨rfl, b⟩; exact ⟨rfl, b⟩)) (by simp only [Zs]; rfl) ?_
  refine oMove rfl rfl rfl rfl _ (.inl rfl) (by conv => lhs; whnf) (by simp only [Zs]; rfl) ?_
  refine oPure rfl rfl rfl rfl (c := .agg (uc X).toArray) (fun w _ => by go_simp; first | done | rfl) (by simp only [Zs]; rfl) ?_
  refine oPure rfl rfl rfl rfl (c := .bool ox) (fun w _ => by go_simp; first | done | rfl) (by simp only [Zs]; rfl) ?_
  refine oOld rfl rfl rfl rfl (fun w hw => fill_end fun f hf h0 => ?_) ?_
  ·exact oOldRow hf h0 rfl _ _ _ rfl rfl rfl 4 rfl (by kernel_rfl) rfl
  refine oEnd fun w6 hw6 => fill_end fun _ hO => ?_
  have a8 : Av w6 g7 139 (uc X) := hO (Old.one g7 139 6 (uc q) (uc X)) (List.mem_cons_self ..)
  have c6 := c5.trans (hw6.low (Nat.le_of_lt r5.lt) (by intro e he; simp only [List.mem_cons, List.not_mem_nil, or_false] at he; subst he; exact g7H'))
  have r6 : Av w6 H 139 (uq4 0 0 0 0) := Fo.av hw6 r5 (by intro e he; simp only [List.mem_cons, List.not_mem_nil, or_false] at he; subst he; simp only [Old.one]; omega)
  clear hw6 hO r5 a7 c5
  have hHG : H ≤ H := Nat.le_refl _
  go_wp2_with (first
   | ((with_reducible refine wpList_loadF 139 a8 ?_ _ 4 ?_ Tryd.underlying139 ?_ ?_ ?_); rfl; rfl; rfl; kernel_rfl)
   | ((with_reducible refine wpList_storeFA 139 c6 r6 hHG (uc X) ?_ ?_ 4 ?_ ?_ ?_ ?_ ?_); rfl; rfl; rfl; kernel_rfl; rfl; rfl; intro w7 a9 b9 k9 z9; clear k9; replace z9 := Lib.hid z9))
  refine bodyPost_ret (results_cell_row rfl _ _ H _ _ (0, 0) _ (by rfl) a9 Tryd.underlying139 rfl (by kernel_rfl)) rfl ⟨by rw [hRe.out], by rw [← hH.out]; exact b9⟩
theorem TWork (b : Nat) (hb : b < 4294967296) (w : World) :
  Calls Tryd.prog 57 #[.int .u32 (b : Int)] w fun e w' => e = .returned (.agg (uc (mWork b)).toArray) ∧ Below w.heap.size w w' := by
 cases h : mExp b with
 | none =>
  rw [show mWork b = 0 by rw [mWork, h]]
  exact TWork_no b hb h w
 | some t => exact TWork_yes b t hb h w
end Go.Proofs.YtobjgebojhjhnaaDoor
namespace Go.Proofs.YtobjgebojhjhnaaDoor
open Go.RowKit
open Go.Maps (Keyed)
def ndc (n : Nd) : List Value := n.id.map bv ++ (hdc n.head ++ ([.int .i64 n.par, .int .i64 (n.hgt : Int)] ++ uc n.wrk))
structure NdOk (n : Nd) : Prop where
 id : n.id.length = 32
 head : n.head.ok
 wrk : n.wrk < 115792089237316195423570985008687907853269984665640564039457584007913129639936
theorem ndc_length {n : Nd} (h : NdOk n) : (ndc n).length = 106 := by simp [ndc, h.id, hdc_length h.head, uc, uq4]
theorem ndc_one (n : Nd) : ∀ u ∈ ndc n, u.oneCell' = true := by
 intro u hu
 simp only [ndc, List.mem_append, List.mem_map, List.mem_cons, List.not_mem_nil, or_false, uc, uq4] at hu
 rcases hu with ⟨_, _, rfl⟩ | h | (rfl | rfl) | rfl | rfl | rfl | rfl
 ·rfl
 ·exact hdc_one _ u h
 all_goals rfl
def NdsOk (ns : List Nd) : Prop := ∀ n ∈ ns, NdOk n
theorem TOk.nds {ns : List Nd} (h : TOk ns) : NdsOk ns := by
 intro n hn
 obtain ⟨k, hk, rfl⟩ := List.getElem_of_mem hn
 obtain ⟨a, b, c⟩ := h.head k _ (List.getElem?_eq_getElem hk)
 exact ⟨by rw [b]; exact hdId_length _, a, c⟩
def ndl (ns : List Nd) : List Value := ns.flatMap ndc
theorem ndl_len {ns : List Nd} (h : NdsOk ns) : (ndl ns).length = ns.length * 106 := flat_length ndc 106 ns fun e he => ndc_length (h e he)
theorem mapM_of {α β : Type} {f : α → Option β} : ∀ l : List α, (∀ i ∈ l, ∃ y, f i = some y) → ∃ ys, l.mapM f = some ys
 | [], _ => ⟨[], rfl⟩
 | a :: l, h => by
  obtain ⟨y, hy⟩ := h a (List.mem_cons_self ..)
  obtain ⟨ys, hys⟩ := mapM_of l fun i hi => h i (List.mem_cons_of_mem _ hi)
  exact ⟨y :: ys, by simp [List.mapM_cons, hy, hys]⟩
theorem hash_cells : Tryd.prog.cellsOf 30 = 32 ∧ Tryd.prog.cellsOf 5 = 1 := ⟨by kernel_rfl, by kernel_rfl⟩
theorem types_succ : Tryd.prog.types.size = (Tryd.prog.types.size - 2) + 1 + 1 := by kernel_rfl
theorem hash_row : 30 < Tryd.prog.types.size := of_decide_eq_true (by kernel_rfl)
theorem key_hash (x : List UInt8) (hx : x.length = 32) : ∃ l, keyOf Tryd.prog 30 (.agg (hcs x)) = some l := by
 have h1 : Tryd.prog.keyType 30 = true := by kernel_rfl
 obtain ⟨c1, c2⟩ := hash_cells
 have h2 : (Value.agg (hcs x)).formed Tryd.prog 30 = true := by
  simp [Value.formed, Tryd.underlying30, c1, hx]
 have h3 : ∃ ls, Tryd.prog.keyLits (Tryd.prog.types.size + 1) 30 (Value.agg (hcs x)).cells.toList = some ls := by
  rw [types_succ]
  unfold Program.keyLits
  simp only [Tryd.underlying30, Value.cells, c1, c2]
  rw [if_pos (by simp [hx])]
  obtain ⟨ys, hys⟩ := mapM_of (f := fun i => Tryd.prog.keyLits (Tryd.prog.types.size - 2 + 2) 5 (((x.map bv).drop (i * 1)).take 1)) (List.range 32) (by
   intro i hi
   have hi' : i < 32 := List.mem_range.1 hi
   have e : ((x.map bv).drop (i * 1)).take 1 = [bv (x[i]'(by omega))] := by
    rw [Nat.mul_one, List.drop_eq_getElem_cons (by simp [hx]; exact hi')]
    simp
   rw [e]
   have := (x[i]'(by omega)).toNat_lt
   refine ⟨[Lit.int .u8 (x[i]'(by omega)).toNat], ?_⟩
   unfold Program.keyLits
   simp only [Tryd.underlying5, bv, true_and]
   rw [if_pos (by simp [Lit.wf, IntKind.min, IntKind.max, IntKind.signed, IntKind.bits]; omega)])
  exact ⟨ys.flatten, by rw [hys]; rfl⟩
 obtain ⟨ls, hls⟩ := h3
 refine ⟨.string (keyBytes ls), ?_⟩
 unfold keyOf
 rw [Tryd.underlying30]
 simp only
 rw [if_pos (by rw [h1, h2]; rfl), hls]
 rfl
theorem laid_all : laidOutB Tryd.prog = true := by
 kernel_rfl
theorem hash_keyed : Keyed Tryd.prog 30 := by
 exact Keyed.of_law (deep_law_laid laid_all (m := 2) (by omega) hash_row (by kernel_rfl) (by kernel_rfl))
theorem bv_map_inj : ∀ {x y : List UInt8}, x.map bv = y.map bv → x = y := by
 intro x
 induction x with
 | nil => intro y h; cases y <;> simp_all
 | cons a x ih =>
  intro y h
  cases y with
  | nil => simp at h
  | cons b y =>
   simp only [List.map_cons, List.cons.injEq] at h
   rw [ih h.2]
   congr 1
   have := h.1
   simp only [bv, Value.int.injEq, true_and] at this
   exact UInt8.toNat_inj.1 (by omega)
def TMap (w : World) (M : Option Nat) (ns : List Nd) : Prop :=
 match M with
 | none => ns = []
 | some b => ∃ (n : Nat) (D : DataW Unit), w.ownsMap Tryd.prog 30 (plainElem Tryd.prog 3) b n D ∧ n ≤ ns.length ∧
  ∀ x l, x.length = 32 → keyOf Tryd.prog 30 (.agg (hcs x)) = some l → Maps.has D l = (tFind ns x).isSome ∧ D.atKey l (.lit (.int .i64 0)) = .lit (.int .i64 ((tFind ns x).getD 0 : Nat))
theorem TMap.block {w w' : World} {M : Option Nat} {ns : List Nd} (h : TMap w M ns) (hb : ∀ b, M = some b → w'.heap[b]? = w.heap[b]?) : TMap w' M ns := by
 cases M with
 | none => exact h
 | some b =>
  obtain ⟨n, D, ⟨es, clock, e, r⟩, q⟩ := h
  exact ⟨n, D, ⟨es, clock, (hb b rfl).trans e, r⟩, q⟩
theorem TMap.lt {w : World} {b : Nat} {ns : List Nd} (h : TMap w (some b) ns) : b < w.heap.size := by
 obtain ⟨n, D, o, _⟩ := h
 exact o.lt
theorem TMap.below {w w' : World} {M : Option Nat} {ns : List Nd} (h : TMap w M ns) (hb : Below w.heap.size w w') : TMap w' M ns :=
 h.block fun b e => by subst e; exact hb.block b h.lt
theorem zero_int (w : World) : (zeroValue 3).run Tryd.prog w = .ok (.int .i64 0) w := by kernel_rfl
theorem TMap.look {w : World} {M : Option Nat} {ns : List Nd} (h : TMap w M ns) (x : List UInt8) (hx : x.length = 32) :
  (Instr.lookup 119 (.map M) (.agg (hcs x)) true).run Tryd.prog w = .ok (.tuple #[.int .i64 ((tFind ns x).getD 0 : Nat), .bool (tFind ns x).isSome]) w := by
 obtain ⟨l, hl⟩ := key_hash x hx
 cases M with
 | none =>
  have hn : ns = [] := h
  subst hn
  exact Maps.look_nil true hash_keyed Tryd.underlying119 (zero_int w) hl
 | some b =>
  obtain ⟨n, D, o, _, q⟩ := h
  obtain ⟨q1, q2⟩ := q x l hx hl
  obtain ⟨v, ps, hrun, hv⟩ := o.look_ok hash_keyed Tryd.underlying119 (zero_int w) (zd := .lit (.int .i64 0)) (plainElem_int Tryd.underlying3 (by decide)) hl
  obtain ⟨c, rfl, hc, _⟩ := plainElem_int_inv Tryd.underlying3 hv
  rw [q2] at hc
  simp only [Prod.mk.injEq, DataW.lit.injEq, Lit.int.injEq, true_and] at hc
  rw [hrun, q1, ← hc.1]
theorem TMap.made (w : World) : TMap (w.alloc (.map #[] 0)) (some w.heap.size) [] := by
 refine ⟨0, .map [], World.ownsMap_made _ _ _ _, Nat.le_refl _, fun x l hx hl => ⟨rfl, rfl⟩⟩
set_option maxRecDepth 10000 in
theorem TMap.put {w : World} {b : Nat} {ns : List Nd} (h : TMap w (some b) ns) (hn : ns.length ≤ 1048576) {nd : Nd} (hid : nd.id.length = 32) (hf : tFind ns nd.id = none) :
  ∃ w', (Instr.mapUpdate 119 (.map (some b)) (.agg (hcs nd.id)) (.int .i64 (ns.length : Int))).run Tryd.prog w = .ok () w' ∧ TMap w' (some b) (ns ++ [nd]) ∧ w.grownBy w' (some b) := by
 obtain ⟨l, hl⟩ := key_hash nd.id hid
 obtain ⟨n, D, o, hle, q⟩ := h
 obtain ⟨w', hrun, o', hg⟩ := o.update hash_keyed Tryd.underlying119 (by simp only [maxLen]; omega) hl (plainElem_int (q := .i64) (a := (ns.length : Int)) Tryd.underlying3 (by simp [Lit.wf, IntKind.min, IntKind.max, IntKind.signed, IntKind.bits]; omega))
 refine ⟨w', hrun, ⟨n + 1, _, o', by simp; omega, fun x k hx hk => ?_⟩, hg⟩
 have hfs : tFind (ns ++ [nd]) x = (tFind ns x).or (if nd.id == x then some ns.length else none) := by
  unfold tFind
  rw [List.findIdx?_append]
  simp [List.findIdx?_cons]
 by_cases e : x = nd.id
 ·subst e
  rw [hl] at hk
  injection hk with hk
  subst hk
  have hm := o.isMap
  rw [hfs, hf, Maps.has_put_same hm (hash_keyed.key hl), Maps.atKey_put_same hm (hash_keyed.key hl)]
  simp
 ·have hne : k ≠ l := fun e2 => e (by
   subst e2
   have := hash_keyed.inj hk hl
   injection this with this
   have h1 : x.map bv = nd.id.map bv := by simpa [hcs] using congrArg Array.toList this
   exact bv_map_inj h1)
  rw [hfs, Maps.has_put_other hne, Maps.atKey_put_other hne]
  have : (nd.id == x) = false := by simpa using Ne.symm e
  rw [this]
  simpa using q x k hx hk
structure TRv (w : World) (R most : Nat) (A : Option Addr) (n c : Nat) (M : Option Nat) (ns : List Nd) : Prop where
 av : Av w R 121 [.int .i64 (most : Int), .slice A n c, .map M]
 len : ns.length = n
 small : n ≤ 1048576
 rd : Rd w A (ndl ns)
 map : TMap w M ns
 nds : NdsOk ns
theorem TRv.below {w w' : World} {R most : Nat} {A : Option Addr} {n c : Nat} {M : Option Nat} {ns : List Nd} (h : TRv w R most A n c M ns) (b : Below w.heap.size w w') : TRv w' R most A n c M ns :=
 ⟨h.av.below b, h.len, h.small, h.rd.below b, h.map.below b, h.nds⟩
def TRef (w : World) (v : Value) (ns : List Nd) : Prop := (v = .pointer none ∧ ns = []) ∨ ∃ R most A n c M, v = .pointer (some ⟨R, 0, none⟩) ∧ TRv w R most A n c M ns
theorem TRef.below {w w' : World} {v : Value} {ns : List Nd} (h : TRef w v ns) (b : Below w.heap.size w w') : TRef w' v ns := by
 rcases h with h | ⟨R, most, A, n, c, M, e, h⟩
 ·exact .inl h
 ·exact .inr ⟨R, most, A, n, c, M, e, h.below b⟩
theorem TRv.adr {w : World} {R most : Nat} {A : Option Addr} {n c : Nat} {M : Option Nat} {ns : List Nd} (h : TRv w R most A n c M ns) (hn : 0 < n) : ∃ b off, A = some ⟨b, off, none⟩ := by
 refine h.rd.someA fun e => ?_
 have := ndl_len h.nds
 rw [e, List.length_nil, h.len] at this
 omega
theorem TRv.nth {w : World} {R most : Nat} {b off : Nat} {n c : Nat} {M : Option Nat} {ns : List Nd} (h : TRv w R most (some ⟨b, off, none⟩) n c M ns) (k : Nat) (nd : Nd) (hk : ns[k]? = some nd) : w.rangeAt b (off + k * 106) (ndc nd) ∧ NdOk nd :=
 ⟨Rd.piece ndc 106 ns (fun e he => ndc_length (h.nds e he)) h.rd k nd hk, h.nds nd (List.mem_of_getElem? hk)⟩
theorem exec_lookup {P : Program} {t : TypeId} {m k r : Value} {c : Bool} {w : World} (h : (Instr.lookup t m k c).run P w = .ok r w) {o : Oper} {ρ : Operand → Value} {x y : Operand} (ho : o.op = .lookup t x y c) (hx : ρ x = m) (hy : ρ y = k) : (execOp ρ o).run P w = .ok (.value r) w := by
 unfold execOp
 simp [ho, hx, hy, h, Result.andThen]
set_option maxRecDepth 100000 in
set_option maxHeartbeats 1000000 in
theorem TLen (v : Value) (ns : List Nd) (w : World) (h : TRef w v ns) : Calls Tryd.prog 58 #[v] w fun e w' => e = .returned (.int .i64 (ns.length : Int)) ∧ w = w' := by
 rcases h with ⟨rfl, rfl⟩ | ⟨R, most, A, n, c, M, rfl, T⟩
 ·go_enter Tryd.func58, Tryd.ntmps58
  go_wp2
  go_ret
  exact ⟨rfl, rfl⟩
 ·have c1 := T.av.cell 1 _ rfl
  have hl := T.len
  rw [hl]
  clear T hl
  go_enter Tryd.func58, Tryd.ntmps58
  go_wp2
  go_ret
  exact ⟨rfl, rfl⟩
set_option maxRecDepth 100000 in
set_option maxHeartbeats 1000000 in
theorem TFind (v : Value) (ns : List Nd) (x : List UInt8) (hx : x.length = 32) (w : World) (h : TRef w v ns) : Calls Tryd.prog 16 #[v, .agg (hcs x)] w fun e w' => e = .returned (.tuple #[.int .i64 ((tFind ns x).getD 0 : Nat), .bool (tFind ns x).isSome]) ∧ Below w.heap.size w w' := by
 obtain ⟨W, hW⟩ : ∃ W, W = w.alloc (.cells (hcs x) 30) := ⟨_, rfl⟩
 obtain ⟨H, hH⟩ : ∃ H, H = w.heap.size := ⟨_, rfl⟩
 have bW : Below w.heap.size w W := by rw [hW]; exact (Below.refl _ _).alloc (Nat.le_refl _) _
 have aX : Av W H 30 (x.map bv) := by rw [hW, hH]; exact heap_alloc_new _ _
 replace hW := Lib.hid hW
 replace hH := Lib.hid hH
 obtain ⟨K, hK⟩ : ∃ K, K = (tFind ns x).getD 0 := ⟨_, rfl⟩
 obtain ⟨E, hE⟩ : ∃ E, E = (tFind ns x).isSome := ⟨_, rfl⟩
 rw [← hK, ← hE]
 rcases h with ⟨rfl, rfl⟩ | ⟨R, most, A, n, c, M, rfl, T⟩
 ·have k0 : K = 0 := hK
  have e0 : E = false := hE
  subst k0 e0
  clear hK hE
  go_enter Tryd.func16, Tryd.ntmps16
  go_upto_region 1 with fail
  rw [← hW.out, ← hH.out]
  go_wp2
  go_ret2
  exact ⟨rfl, bW⟩
 ·replace hK := Lib.hid hK
  replace hE := Lib.hid hE
  go_enter Tryd.func16, Tryd.ntmps16
  go_upto_region 1 with fail
  rw [← hW.out, ← hH.out]
  go_upto_region 3 with fail
  refine wp_region_rel [] Ext (by kernel_rfl) (by kernel_rfl) (by kernel_rfl) Ext.refl Ext.trans (by intro p hp; cases hp) ?_
  refine ZM ?_
  refine ZP (c := .pointer (some ⟨R, 0, none⟩)) (fun w _ => by go_simp; first | done | rfl) ?_
  refine ZP (c := .pointer (some ⟨R, 2, none⟩)) (fun w _ => by go_simp; first | done | rfl) ?_
  refine ZP (c := .map M) (fun w hw => by have := (T.av.below (bW.trans (hw.drew.mono bW.size))).cell 2 _ rfl; go_simp; first | done | rfl) ?_
  refine ZP (c := .agg (hcs x)) (fun w hw => exec_loadAv (l := x.map bv) (aX.below hw.drew) _ _ rfl rfl _ 32 (by rw [List.length_map]; exact hx) Tryd.underlying30 rfl (by kernel_rfl)) ?_
  refine ZP (c := .tuple #[.int .i64 ((K : Nat) : Int), .bool E]) (fun w hw => exec_lookup (by have := (T.map.below (bW.trans (hw.drew.mono bW.size))).look x hx; rwa [← hK.out, ← hE.out] at this) rfl rfl rfl) ?_
  refine ZM ?_
  refine ZP (c := .int .i64 ((K : Nat) : Int)) (fun w _ => by go_simp; first | done | rfl) ?_
  refine ZP (c := .bool E) (fun w _ => by go_simp; first | done | rfl) ?_
  refine ZM ?_
  refine ZM ?_
  refine relEnd fun w5 hw5 => fill_end ?_
  have b5 := bW.trans (hw5.drew.mono bW.size)
  go_wp2
  go_ret2
  exact ⟨rfl, b5⟩
end Go.Proofs.YtobjgebojhjhnaaDoor
namespace Go.Proofs.YtobjgebojhjhnaaDoor
open Go.RowKit
def zeroNd : Nd := ⟨List.replicate 32 0, ⟨0, List.replicate 32 0, List.replicate 32 0, 0, 0, 0⟩, 0, 0, 0⟩
def zcN : Array Value := (ndc zeroNd).toArray
theorem zcN_ne : zcN ≠ #[] := by
 intro h
 have := congrArg Array.size h
 revert this
 decide
theorem zvN (w : World) : (zeroValue 141).run Tryd.prog w = .ok (.agg zcN) w := by
 obtain ⟨i0, hi, hz⟩ := Option.map_eq_some_iff.1 (show (Tryd.prog.info? 141).map (·.zero) = some (some (.agg zcN)) by kernel_rfl)
 simp [zeroValue, typeInfo, hi, hz]
theorem zcN_c : Tryd.zeroCells141 = zcN := by kernel_rfl
attribute [local go_sem high] zvN zcN_c
attribute [local simp] zcN_ne
theorem bldN (a : Act) (w' : World) (d tp pos af) : (execOp a.eval ⟨d, .build 141 #[], tp, pos, af, none⟩).run Tryd.prog w' = .ok (.value (.agg zcN)) w' := by
 kernel_rfl
theorem zcN_len : (ndc zeroNd).length = 106 := by rfl
theorem zcN_one : (ndc zeroNd).all (·.oneCell') = true := by rfl
theorem wpList_buildE {P : Program} {ty : TypeId} {parts : Array (Nat × Operand)} {ops : Array Oper} {rest : List Oper} {a : Act} {w : World} {Q : Exit → Act → World → Prop} {d tp pos af} (v : Value) (h : (execOp a.eval ⟨d, .build ty parts, tp, pos, af, none⟩).run P w = .ok (.value v) w) (k : wpList P ops Q rest (a.put d v) w) : wpList P ops Q (⟨d, .build ty parts, tp, pos, af, none⟩ :: rest) a w :=
 wpList_execW rfl h k
def nodeV (ns : List Nd) (i : Int) : Value := match (if 0 ≤ i then ns[i.toNat]? else none) with
 | some n => .tuple #[.agg (ndc n).toArray, .bool true]
 | none => .tuple #[.agg zcN, .bool false]
theorem nodeV_in {ns : List Nd} {i : Nat} {n : Nd} (h : ns[i]? = some n) : nodeV ns (i : Int) = .tuple #[.agg (ndc n).toArray, .bool true] := by
 unfold nodeV
 rw [if_pos (by omega), Int.toNat_natCast, h]
theorem nodeV_out {ns : List Nd} {i : Int} (h : ¬ (0 ≤ i ∧ i < ns.length)) : nodeV ns i = .tuple #[.agg zcN, .bool false] := by
 unfold nodeV
 by_cases h0 : 0 ≤ i
 ·rw [if_pos h0, List.getElem?_eq_none (by omega)]
 ·rw [if_neg h0]
set_option maxRecDepth 100000 in
set_option maxHeartbeats 1000000 in
theorem TNode (v : Value) (ns : List Nd) (i : Int) (hi : -9223372036854775808 ≤ i ∧ i ≤ 9223372036854775807) (w : World) (h : TRef w v ns) : Calls Tryd.prog 52 #[v, .int .i64 i] w fun e w' => e = .returned (nodeV ns i) ∧ Below w.heap.size w w' := by
 obtain ⟨W, hW⟩ : ∃ W, W = w.alloc (.cells zcN 141) := ⟨_, rfl⟩
 obtain ⟨H, hH⟩ : ∃ H, H = w.heap.size := ⟨_, rfl⟩
 have bW : Below w.heap.size w W := by rw [hW]; exact (Below.refl _ _).alloc (Nat.le_refl _) _
 have aR : Av W H 141 (ndc zeroNd) := by rw [hW, hH]; exact heap_alloc_new _ _
 have hHw : w.heap.size ≤ H := by rw [hH]; exact Nat.le_refl _
 have HL := TLen v ns W (h.below bW)
 replace hW := Lib.hid hW
 replace hH := Lib.hid hH
 obtain ⟨Z, hZ⟩ : ∃ Z, Z = nodeV ns i := ⟨_, rfl⟩
 rw [← hZ]
 obtain ⟨n, hn⟩ : ∃ n, n = ns.length := ⟨_, rfl⟩
 rw [← hn] at HL
 replace HL := Lib.hid HL
 by_cases hin : 0 ≤ i ∧ i < ns.length
 ·rcases h with ⟨rfl, rfl⟩ | ⟨R, most, A, m, c, M, rfl, T⟩
  ·simp at hin; omega
  ·obtain ⟨k, rfl⟩ : ∃ k : Nat, i = (k : Int) := ⟨i.toNat, by omega⟩
   obtain ⟨nd, hnd⟩ : ∃ nd, ns[k]? = some nd := ⟨_, List.getElem?_eq_getElem (by omega)⟩
   rw [nodeV_in hnd] at hZ
   subst hZ
   have hlm := T.len
   obtain ⟨b, off, rfl⟩ := T.adr (by omega)
   have T2 := T.below bW
   have c1 := T2.av.cell 1 _ rfl
   obtain ⟨rg, nok⟩ := T2.nth k nd hnd
   have l106 := Lib.hid (ndc_length nok)
   have one5 := Lib.hid (List.all_eq_true.2 (ndc_one nd))
   have t0 : decide ((k : Int) < 0) = false := by simp
   have t1 : decide ((n : Int) ≤ (k : Int)) = false := by simp; omega
   have t2 : decide (n ≤ k) = false := by simp; omega
   have m1 : (k : Int) < (m : Int) := by omega
   have m0 : (0 : Int) ≤ (k : Int) := by omega
   replace rg := Lib.hid rg
   replace hnd := Lib.hid hnd
   clear T T2 hi hin hlm nok hn
   go_enter Tryd.func52, Tryd.ntmps52
   go_upto_region 1 with fail
   rw [← hW.out, ← hH.out]
   go_upto_region 3 with (go_at_call 58; refine (HL.out).mono ?_; rintro e w2 ⟨rfl, rfl⟩)
   go_wp2_with (first
    | ((with_reducible refine wpList_loadMF 141 (ndc nd) rg.out ?_ _ Tryd.underlying141 ?_ ?_ ?_); rfl; rfl; (rw [l106.out]; kernel_rfl))
    | ((with_reducible refine wpList_storeFA 141 bW aR hHw (ndc nd) ?_ ?_ 106 ?_ ?_ ?_ ?_ ?_); rfl; rfl; exact l106.out; kernel_rfl; exact zcN_len; exact one5.out; intro w5 a5 b5 k5 z5; clear k5; replace z5 := Lib.hid z5))
   refine bodyPost_ret (v := .tuple #[.agg (ndc nd).toArray, .bool true]) ((results_cellU (C := ndc nd) (by rfl) (by rfl) a5 _ Tryd.underlying141 rfl 106 l106.out (by kernel_rfl)).trans (by rfl)) (by rfl) ⟨rfl, b5⟩
 ·rw [nodeV_out hin] at hZ
  subst hZ
  have one5 := Lib.hid zcN_one
  have hz : zcN = (ndc zeroNd).toArray := rfl
  replace hz := Lib.hid hz
  by_cases h0 : i < 0
  ·have t0 : decide (i < 0) = true := by simpa using h0
   clear hi hin hn h
   go_enter Tryd.func52, Tryd.ntmps52
   go_upto_region 1 with fail
   rw [← hW.out, ← hH.out]
   go_wp2_with (first
    | (with_reducible refine wpList_buildE (.agg zcN) (bldN _ _ _ _ _ _) ?_)
    | ((with_reducible refine wpList_storeFA 141 bW aR hHw (ndc zeroNd) ?_ ?_ 106 ?_ ?_ ?_ ?_ ?_); rfl; rfl; exact zcN_len; kernel_rfl; exact zcN_len; exact one5.out; intro w5 a5 b5 k5 z5; clear k5; replace z5 := Lib.hid z5))
   refine bodyPost_ret (v := .tuple #[.agg zcN, .bool false]) ((results_cellU (C := ndc zeroNd) (by rfl) (by rfl) a5 _ Tryd.underlying141 rfl 106 zcN_len (by kernel_rfl)).trans (by rfl)) (by rfl) ⟨rfl, b5⟩
  ·have t0 : decide (i < 0) = false := by simpa using h0
   have t1 : decide ((n : Int) ≤ i) = true := by simp; omega
   clear hi hin hn h
   go_enter Tryd.func52, Tryd.ntmps52
   go_upto_region 1 with fail
   rw [← hW.out, ← hH.out]
   go_upto_region 2 with (go_at_call 58; refine (HL.out).mono ?_; rintro e w2 ⟨rfl, rfl⟩)
   go_wp2_with (first
    | (with_reducible refine wpList_buildE (.agg zcN) (bldN _ _ _ _ _ _) ?_)
    | ((with_reducible refine wpList_storeFA 141 bW aR hHw (ndc zeroNd) ?_ ?_ 106 ?_ ?_ ?_ ?_ ?_); rfl; rfl; exact zcN_len; kernel_rfl; exact zcN_len; exact one5.out; intro w5 a5 b5 k5 z5; clear k5; replace z5 := Lib.hid z5))
   refine bodyPost_ret (v := .tuple #[.agg zcN, .bool false]) ((results_cellU (C := ndc zeroNd) (by rfl) (by rfl) a5 _ Tryd.underlying141 rfl 106 zcN_len (by kernel_rfl)).trans (by rfl)) (by rfl) ⟨rfl, b5⟩
theorem ndc_at {n : Nd} (h : NdOk n) : (ndc n)[100]? = some (.int .i64 n.par) ∧ (ndc n)[101]? = some (.int .i64 (n.hgt : Int)) := by
 have h1 := h.id
 have h2 := hdc_length h.head
 constructor <;>
 ·unfold ndc
  rw [List.getElem?_append_right (by simp [h1]), List.getElem?_append_right (by simp [h1, h2])]
  simp [h1, h2]
theorem rg_work {w : World} {b o : Nat} {n : Nd} (h : NdOk n) (r : w.rangeAt b o (ndc n)) : w.rangeAt b (o + 102) (uc n.wrk) := fun j u hu => by
 have h1 := h.id
 have h2 := hdc_length h.head
 have := r (102 + j) u (by
  unfold ndc
  rw [List.getElem?_append_right (by simp [h1]; omega), List.getElem?_append_right (by simp [h1, h2]; omega), List.getElem?_append_right (by simp [h1, h2]; omega)]
  simp only [List.length_map, h1, h2, List.length_cons, List.length_nil]
  rw [show 102 + j - 32 - 68 - (0 + 1 + 1) = j by omega]
  exact hu)
 rw [Nat.add_assoc]
 exact this
theorem rg_cell {w : World} {b o i : Nat} {cs : List Value} {u : Value} (r : w.rangeAt b o cs) (h : cs[i]? = some u) : w.cell? ⟨b, o + i, none⟩ = some u := r i u h
def aboveV (ns : List Nd) (i h : Int) : Value := if 0 ≤ i ∧ i < ns.length ∧ 0 ≤ h ∧ h ≤ tHgt ns i.toNat then .tuple #[.int .i64 (tAnc ns i.toNat (tHgt ns i.toNat - h.toNat) : Nat), .bool true] else .tuple #[.int .i64 0, .bool false]
theorem tHgt_at {ns : List Nd} {i : Nat} {n : Nd} (h : ns[i]? = some n) : tHgt ns i = n.hgt := (tAt h).2.1
theorem TOk.par {ns : List Nd} (ok : TOk ns) {i : Nat} {n : Nd} (h : ns[i]? = some n) (h0 : i ≠ 0) : n.par = (tPar ns i : Int) := by
 obtain ⟨p, m, e1, _⟩ := ok.step i n h h0
 rw [(tAt h).1, e1]
 rfl
set_option maxRecDepth 100000 in
set_option maxHeartbeats 4000000 in
theorem TAbove (v : Value) (ns : List Nd) (ok : TOk ns) (i h : Int) (hi : -9223372036854775808 ≤ i ∧ i ≤ 9223372036854775807) (w : World) (ht : TRef w v ns) : Calls Tryd.prog 91 #[v, .int .i64 i, .int .i64 h] w fun e w' => e = .returned (aboveV ns i h) ∧ Below w.heap.size w w' := by
 have HN := TNode v ns i hi w ht
 obtain ⟨Z, hZ⟩ : ∃ Z, Z = aboveV ns i h := ⟨_, rfl⟩
 rw [← hZ]
 by_cases hin : 0 ≤ i ∧ i < ns.length
 ·obtain ⟨k, rfl⟩ : ∃ k : Nat, i = (k : Int) := ⟨i.toNat, by omega⟩
  have hkl : k < ns.length := by omega
  obtain ⟨nd, hnd⟩ : ∃ nd, ns[k]? = some nd := ⟨_, List.getElem?_eq_getElem hkl⟩
  rw [nodeV_in hnd] at HN
  have hth := tHgt_at hnd
  rcases ht with ⟨rfl, rfl⟩ | ⟨R, most, A, n, c, M, rfl, T⟩
  ·simp at hkl
  ·have hlen := T.len
   have hn0 : 0 < n := by omega
   obtain ⟨b, off, rfl⟩ := T.adr hn0
   have nok := T.nds nd (List.mem_of_getElem? hnd)
   have l106 := Lib.hid (ndc_length nok)
   have one2 := Lib.hid (List.all_eq_true.2 (ndc_one nd))
   obtain ⟨_, q101⟩ := ndc_at nok
   have hhs : nd.hgt < 1048576 := by
    have := ok.hgt_le hkl
    have := T.small
    omega
   obtain ⟨G, hG⟩ : ∃ G, G = nd.hgt := ⟨_, rfl⟩
   rw [← hG] at hth q101 hhs
   replace HN := Lib.hid HN
   replace hG := Lib.hid hG
   replace q101 := Lib.hid q101
   replace hnd := Lib.hid hnd
   replace hlen := Lib.hid hlen
   clear nok
   by_cases hh : 0 ≤ h ∧ h ≤ (G : Int)
   ·obtain ⟨q, rfl⟩ : ∃ q : Nat, h = (q : Int) := ⟨h.toNat, by omega⟩
    have hZ2 : Z = .tuple #[.int .i64 (tAnc ns k (G - q) : Nat), .bool true] := by
     rw [hZ, aboveV]
     simp only [Int.toNat_natCast, hth]
     rw [if_pos (by omega)]
    have t0 : decide ((q : Int) < 0) = false := by simp
    have t1 : decide ((G : Int) < (q : Int)) = false := by simp; omega
    have t1' : decide (G < q) = false := by simp; omega
    have hqG : q ≤ G := by omega
    replace hth := Lib.hid hth
    replace hZ2 := Lib.hid hZ2
    clear hin hi hh hZ
    go_enter Tryd.func91, Tryd.ntmps91
    go_upto_region 2 with (first
   | (go_at_call 52; refine (HN.out).mono ?_; rintro e w1 ⟨rfl, b1⟩)
   | ((with_reducible refine wpList_storeF 141 ((Below.refl w1.heap.size w1).alloc (Nat.le_refl _) _) (heap_alloc_new _ _) (Nat.le_refl _) (ndc nd) ?_ ?_ 106 ?_ ?_ ?_ ?_ ?_); rfl; rfl; exact l106.out; kernel_rfl; exact zcN_len; exact one2.out; intro w2 a2 b2 k2 z2; clear k2; replace z2 := Lib.hid z2))
    have b3 := b1.trans (b2.mono b1.size)
    have c101 := a2.cell 101 _ q101.out
    clear a2 b1 b2
    go_upto_region 4 with fail
    clear c101
    go_loopw [1] (fun iv wr => ∃ d : Nat, d ≤ G - q ∧ iv = .int .i64 (tAnc ns k d : Nat) ∧ Below w.heap.size w wr) (fun iv _ => (intOf iv).toNat)
    case atStart => exact ⟨0, by omega, rfl, b3⟩
    case round =>
     obtain ⟨d, hd, rfl, bw⟩ := hrel
     have hle : d ≤ tHgt ns k := by rw [hth.out]; omega
     obtain ⟨p1, p2, p3⟩ := ok.anc hkl d hle
     rw [hth.out] at p2
     obtain ⟨j, hj⟩ : ∃ j, j = tAnc ns k d := ⟨_, rfl⟩
     rw [← hj] at p1 p2 p3 ⊢
     obtain ⟨x, hx⟩ : ∃ x, ns[j]? = some x := ⟨_, List.getElem?_eq_getElem p1⟩
     obtain ⟨r1, r2⟩ := (T.below bw).nth j x hx
     obtain ⟨c100, c101⟩ := ndc_at r2
     have c100 := rg_cell r1 c100
     have c101 := rg_cell r1 c101
     have c1 := (T.below bw).av.cell 1 _ rfl
     have hxh : x.hgt = G - d := by rw [← tHgt_at hx]; exact p2
     have m0 : (0 : Int) ≤ (j : Int) := by omega
     have m1 : (j : Int) < (n : Int) := by have := hlen.out; omega
     obtain ⟨X, hX⟩ : ∃ X, X = x.hgt := ⟨_, rfl⟩
     rw [← hX] at hxh c101
     replace hX := Lib.hid hX
     clear r1 r2
     by_cases hgt : d < G - q
     ·have u1 : decide ((q : Int) < (X : Int)) = true := by simp; omega
      have u1' : decide (q < X) = true := by simp; omega
      have hj0 : j ≠ 0 := by
       intro e
       have := (ok.hgt_0 p1).2 e
       omega
      have hpar := ok.par hx hj0
      have hlt : tPar ns j < j := by
       rcases ok.up p1 with ⟨_, e⟩ | ⟨_, e, _⟩
       ·exact absurd e hj0
       ·exact e
      have hnx : tAnc ns k (d + 1) = tPar ns j := by rw [tAnc, ← hj]
      obtain ⟨Y, hY⟩ : ∃ Y, Y = tPar ns j := ⟨_, rfl⟩
      rw [← hY] at hpar hlt hnx
      rw [hpar] at c100
      replace hpar := Lib.hid hpar
      replace hY := Lib.hid hY
      replace hnx := Lib.hid hnx
      replace hj := Lib.hid hj
      replace hx := Lib.hid hx
      replace p2 := Lib.hid p2
      replace hxh := Lib.hid hxh
      clear hle p3
      go_wp2
      refine ⟨⟨d + 1, by omega, by rw [hnx.out], bw⟩, ?_⟩
      simp [intOf]; omega
     ·obtain rfl : d = G - q := by omega
      have u1 : decide ((q : Int) < (X : Int)) = false := by simp; omega
      have u1' : decide (q < X) = false := by simp; omega
      replace hj := Lib.hid hj
      replace hx := Lib.hid hx
      replace p2 := Lib.hid p2
      replace hxh := Lib.hid hxh
      clear hle p3 hgt
      go_wp2
      go_ret2
      refine ⟨?_, bw⟩
      rw [hZ2.out, ← hj.out]
      rfl
   ·have hZ2 : Z = .tuple #[.int .i64 0, .bool false] := by
     rw [hZ, aboveV]
     simp only [Int.toNat_natCast, hth]
     rw [if_neg (by omega)]
    subst hZ2
    by_cases h0 : h < 0
    ·have t0 : decide (h < 0) = true := by simpa using h0
     clear hin hi hh hZ hth
     go_enter Tryd.func91, Tryd.ntmps91
     go_upto_region 2 with (first
   | (go_at_call 52; refine (HN.out).mono ?_; rintro e w1 ⟨rfl, b1⟩)
   | ((with_reducible refine wpList_storeF 141 ((Below.refl w1.heap.size w1).alloc (Nat.le_refl _) _) (heap_alloc_new _ _) (Nat.le_refl _) (ndc nd) ?_ ?_ 106 ?_ ?_ ?_ ?_ ?_); rfl; rfl; exact l106.out; kernel_rfl; exact zcN_len; exact one2.out; intro w2 a2 b2 k2 z2; clear k2; replace z2 := Lib.hid z2))
     have b3 := b1.trans (b2.mono b1.size)
     go_wp2
     go_ret2
     exact ⟨rfl, b3⟩
    ·have t0 : decide (h < 0) = false := by simpa using h0
     have t1 : decide ((G : Int) < h) = true := by simp; omega
     clear hin hi hh hZ hth
     go_enter Tryd.func91, Tryd.ntmps91
     go_upto_region 2 with (first
   | (go_at_call 52; refine (HN.out).mono ?_; rintro e w1 ⟨rfl, b1⟩)
   | ((with_reducible refine wpList_storeF 141 ((Below.refl w1.heap.size w1).alloc (Nat.le_refl _) _) (heap_alloc_new _ _) (Nat.le_refl _) (ndc nd) ?_ ?_ 106 ?_ ?_ ?_ ?_ ?_); rfl; rfl; exact l106.out; kernel_rfl; exact zcN_len; exact one2.out; intro w2 a2 b2 k2 z2; clear k2; replace z2 := Lib.hid z2))
     have b3 := b1.trans (b2.mono b1.size)
     have c101 := a2.cell 101 _ q101.out
     go_wp2
     go_ret2
     exact ⟨rfl, b3⟩
 ·rw [nodeV_out hin] at HN
  have hZ2 : Z = .tuple #[.int .i64 0, .bool false] := by rw [hZ, aboveV, if_neg (fun q => hin ⟨q.1, q.2.1⟩)]
  subst hZ2
  have one2 := Lib.hid zcN_one
  replace HN := Lib.hid HN
  clear hin hi hZ
  go_enter Tryd.func91, Tryd.ntmps91
  go_upto_region 2 with (first
   | (go_at_call 52; refine (HN.out).mono ?_; rintro e w1 ⟨rfl, b1⟩)
   | ((with_reducible refine wpList_storeF 141 ((Below.refl w1.heap.size w1).alloc (Nat.le_refl _) _) (heap_alloc_new _ _) (Nat.le_refl _) (ndc zeroNd) ?_ ?_ 106 ?_ ?_ ?_ ?_ ?_); rfl; rfl; exact zcN_len; kernel_rfl; exact zcN_len; exact one2.out; intro w2 a2 b2 k2 z2; clear k2; replace z2 := Lib.hid z2))
  have b3 := b1.trans (b2.mono b1.size)
  go_wp2
  go_ret2
  exact ⟨rfl, b3⟩
end Go.Proofs.YtobjgebojhjhnaaDoor
namespace Go.Proofs.YtobjgebojhjhnaaDoor
open Go.RowKit
attribute [local go_sem] zvN
attribute [local simp] zcN_ne
def iv (k : Nat) : Value := .int .i64 (k : Int)
theorem info_int : (Tryd.prog.info? 3).map (fun i => (i.zero, i.size, i.bytes)) = some (some (.int .i64 0), 1, 8) := by kernel_rfl
theorem size_intT : (Tryd.prog.info? 3).map (·.size) = some 1 := by kernel_rfl
theorem madeCells_rep (x : Value) : ∀ n, madeCells #[x] n = (List.replicate n x).toArray := by
 intro n
 unfold madeCells
 apply Array.ext
 ·simp
 ·intro i h1 h2
  simp [Nat.mod_one]
theorem make_ints (n : Nat) (hn : n ≤ 2000000) (u : World) : (Instr.makeSlice 87 (.int .i64 (n : Int)) (.int .i64 (n : Int))).run Tryd.prog u = .ok (.slice (some ⟨u.heap.size, 0, none⟩) n n) (u.alloc (.cells (List.replicate n (Value.int .i64 0)).toArray 3)) := by
 obtain ⟨i0, hi, hz0, hz1, hz2⟩ := info_parts info_int
 have h := run_make (P := Tryd.prog) u 87 3 i0 (.int .i64 0) Tryd.underlying87 hi hz0 .i64 .i64 (n : Int) (n : Int) (by omega) (by omega) (by rw [hz2]; omega) (by omega)
 have e : (n : Int).toNat = n := by omega
 rw [e] at h
 simpa [hz1, Value.cells, madeCells_rep] using h
def IntsV (w : World) (v : Value) (l : List Nat) : Prop := ∃ A n c, v = .slice A n c ∧ l.length = n ∧ Rd w A (l.map iv)
theorem IntsV.below {w w' : World} {v : Value} {l : List Nat} (h : IntsV w v l) (b : Below w.heap.size w w') : IntsV w' v l := by
 obtain ⟨A, n, c, e, hl, r⟩ := h
 exact ⟨A, n, c, e, hl, r.below b⟩
def lineL (ns : List Nd) (i : Int) : List Nat := if 0 ≤ i ∧ i < ns.length then mLine ns i.toNat else []
def lineC (ns : List Nd) (i q : Nat) : List Value := List.replicate (tHgt ns i + 1 - q) (.int .i64 0) ++ ((mLine ns i).drop (tHgt ns i + 1 - q)).map iv
theorem lineC_0 (ns : List Nd) (i : Nat) : lineC ns i 0 = List.replicate (tHgt ns i + 1) (.int .i64 0) := by
 unfold lineC
 rw [Nat.sub_zero, List.drop_eq_nil_of_le (by rw [mLine_length]; exact Nat.le_refl _)]
 simp
theorem lineC_end (ns : List Nd) (i : Nat) : lineC ns i (tHgt ns i + 1) = (mLine ns i).map iv := by
 unfold lineC
 rw [Nat.sub_self]
 simp
theorem lineC_len (ns : List Nd) (i q : Nat) (_ : q ≤ tHgt ns i + 1) : (lineC ns i q).length = tHgt ns i + 1 := by
 simp [lineC, mLine_length]
 done
theorem lineC_set (ns : List Nd) (i q : Nat) (h : q ≤ tHgt ns i) : (lineC ns i q).set (tHgt ns i - q) (iv (tAnc ns i q)) = lineC ns i (q + 1) := by
 unfold lineC
 have e1 : tHgt ns i + 1 - q = (tHgt ns i - q) + 1 := by omega
 have e2 : tHgt ns i + 1 - (q + 1) = tHgt ns i - q := by omega
 rw [e1, e2, List.replicate_succ', List.append_assoc, List.set_append_right _ _ (by simp)]
 simp only [List.length_replicate, Nat.sub_self, List.singleton_append, List.set_cons_zero]
 congr 1
 have h3 := mLine_at ns i (tHgt ns i - q) (by omega)
 rw [show tHgt ns i - (tHgt ns i - q) = q by omega] at h3
 have := (List.getElem?_eq_some_iff.1 h3)
 obtain ⟨h4, h5⟩ := this
 rw [List.drop_eq_getElem_cons h4, h5]
 rfl
set_option maxRecDepth 100000 in
set_option maxHeartbeats 4000000 in
theorem TLine (v : Value) (ns : List Nd) (ok : TOk ns) (i : Int) (hi : -9223372036854775808 ≤ i ∧ i ≤ 9223372036854775807) (w : World) (ht : TRef w v ns) : Calls Tryd.prog 27 #[v, .int .i64 i] w fun e w' => (∃ u, e = .returned u ∧ IntsV w' u (lineL ns i)) ∧ Below w.heap.size w w' := by
 have HN := TNode v ns i hi w ht
 obtain ⟨Z, hZ⟩ : ∃ Z, Z = lineL ns i := ⟨_, rfl⟩
 rw [← hZ]
 by_cases hin : 0 ≤ i ∧ i < ns.length
 ·obtain ⟨k, rfl⟩ : ∃ k : Nat, i = (k : Int) := ⟨i.toNat, by omega⟩
  have hkl : k < ns.length := by omega
  obtain ⟨nd, hnd⟩ : ∃ nd, ns[k]? = some nd := ⟨_, List.getElem?_eq_getElem hkl⟩
  rw [nodeV_in hnd] at HN
  have hth := tHgt_at hnd
  have hZ2 : Z = mLine ns k := by rw [hZ, lineL, if_pos hin]; simp
  rcases ht with ⟨rfl, rfl⟩ | ⟨R, most, A, n, c, M, rfl, T⟩
  ·simp at hkl
  ·have hlen := T.len
   have hn0 : 0 < n := by omega
   obtain ⟨b, off, rfl⟩ := T.adr hn0
   have nok := T.nds nd (List.mem_of_getElem? hnd)
   have l106 := Lib.hid (ndc_length nok)
   have one2 := Lib.hid (List.all_eq_true.2 (ndc_one nd))
   obtain ⟨_, q101⟩ := ndc_at nok
   have hhs : nd.hgt < 1048576 := by
    have := ok.hgt_le hkl
    have := T.small
    omega
   obtain ⟨G, hG⟩ : ∃ G, G = nd.hgt := ⟨_, rfl⟩
   rw [← hG] at hth q101 hhs
   have MK := make_ints (G + 1) (by omega)
   have eG : (((G + 1 : Nat) : Int)) = (G : Int) + 1 := by omega
   rw [eG] at MK
   have lC := lineC_0 ns k
   rw [hth] at lC
   rw [← lC] at MK
   have lE := lineC_end ns k
   rw [hth, ← hZ2] at lE
   have hZl : Z.length = G + 1 := by rw [hZ2, mLine_length, hth]
   obtain ⟨C0, hC0⟩ : ∃ C, C = lineC ns k 0 := ⟨_, rfl⟩
   rw [← hC0] at MK
   replace HN := Lib.hid HN
   replace hG := Lib.hid hG
   replace q101 := Lib.hid q101
   replace hnd := Lib.hid hnd
   replace hlen := Lib.hid hlen
   replace hth := Lib.hid hth
   replace hZ2 := Lib.hid hZ2
   replace hC0 := Lib.hid hC0
   replace lE := Lib.hid lE
   replace lC := Lib.hid lC
   replace hZl := Lib.hid hZl
   replace MK := Lib.hid MK
   clear nok hin hi hZ eG
   go_enter Tryd.func27, Tryd.ntmps27
   go_upto_region 2 with (first
   | (go_at_call 52; refine (HN.out).mono ?_; rintro e w1 ⟨rfl, b1⟩)
   | ((with_reducible refine wpList_storeF 141 ((Below.refl w1.heap.size w1).alloc (Nat.le_refl _) _) (heap_alloc_new _ _) (Nat.le_refl _) (ndc nd) ?_ ?_ 106 ?_ ?_ ?_ ?_ ?_); rfl; rfl; exact l106.out; kernel_rfl; exact zcN_len; exact one2.out; intro w2 a2 b2 k2 z2; clear k2; replace z2 := Lib.hid z2))
   have b3 := b1.trans (b2.mono b1.size)
   have c101 := a2.cell 101 _ q101.out
   have MK2 := MK.out w2
   obtain ⟨g, hg⟩ : ∃ g, g = w2.heap.size := ⟨_, rfl⟩
   rw [← hg] at MK2
   have aG : Av (w2.alloc (.cells C0.toArray 3)) g 3 C0 := by rw [hg]; exact heap_alloc_new _ _
   have b4 : Below w.heap.size w (w2.alloc (.cells C0.toArray 3)) := b3.alloc b3.size _
   have hgw : w.heap.size ≤ g := by rw [hg]; exact b3.size
   have c101' : (w2.alloc (.cells C0.toArray 3)).cell? ⟨w1.heap.size, 101, none⟩ = some (.int .i64 (G : Int)) := (a2.alloc _).cell 101 _ q101.out
   obtain ⟨w4, hw4⟩ : ∃ w4, w4 = w2.alloc (.cells C0.toArray 3) := ⟨_, rfl⟩
   rw [← hw4] at MK2 aG b4 c101'
   replace hg := Lib.hid hg
   replace hw4 := Lib.hid hw4
   clear a2 b1 b2 b3
   go_wp2
   clear c101 c101'
   go_loopw [1, 8] (fun ix kx wr => ∃ (q : Nat) (z : Int), q ≤ G + 1 ∧ kx = .int .i64 ((G : Int) - (q : Int)) ∧ ix = .int .i64 z ∧ (q ≤ G → z = (tAnc ns k q : Nat)) ∧ Av wr g 3 (lineC ns k q) ∧ Below w.heap.size w wr) (fun _ kx _ => (intOf kx + 1).toNat)
   case atStart => exact ⟨0, (k : Int), by omega, by simp, rfl, fun _ => rfl, by rw [← hC0.out]; exact aG, b4⟩
   case round =>
    clear aG b4
    obtain ⟨q, z, hq, rfl, rfl, hz, aq, bw⟩ := hrel
    by_cases hqG : q = G + 1
    ·subst hqG
     have t0 : decide ((0 : Int) ≤ (G : Int) - ((G + 1 : Nat) : Int)) = false := by simp; omega
     have t0' : ¬ ((0 : Int) ≤ (G : Int) - ((G + 1 : Nat) : Int)) := by omega
     rw [lE.out] at aq
     have aq := Lib.hid aq
     clear hz
     go_wp2
     go_ret
     exact ⟨⟨_, rfl, _, _, _, rfl, hZl.out, aq.out.rd⟩, bw⟩
    ·have hz := hz (by omega)
     have hle : q ≤ tHgt ns k := by rw [hth.out]; omega
     obtain ⟨p1, p2, p3⟩ := ok.anc hkl q hle
     rw [hth.out] at p2
     have hset := lineC_set ns k q hle
     have hlc := lineC_len ns k q (by omega)
     rw [hth.out] at hset hlc
     obtain ⟨j, hj⟩ : ∃ j, j = tAnc ns k q := ⟨_, rfl⟩
     rw [← hj] at p1 p2 p3 hset hz
     subst hz
     obtain ⟨p, hp⟩ : ∃ p, p = G - q := ⟨_, rfl⟩
     have ep : (G : Int) - (q : Int) = (p : Int) := by omega
     rw [ep]
     rw [← hp] at hset
     obtain ⟨C1, hC1⟩ : ∃ C, C = lineC ns k q := ⟨_, rfl⟩
     obtain ⟨C2, hC2⟩ : ∃ C, C = lineC ns k (q + 1) := ⟨_, rfl⟩
     rw [← hC1] at aq hset hlc
     rw [← hC2] at hset
     have hpl : p < C1.length := by omega
     have t0 : decide ((0 : Int) ≤ (p : Int)) = true := by simp
     have g0 : (0 : Int) ≤ (p : Int) := by omega
     have g1 : (p : Int) < (G : Int) + 1 := by omega
     have g2 : p < G + 1 := by omega
     have hpG : p < 1048576 := by omega
     obtain ⟨x, hx⟩ : ∃ x, ns[j]? = some x := ⟨_, List.getElem?_eq_getElem p1⟩
     replace hset := Lib.hid hset
     replace hC1 := Lib.hid hC1
     replace hC2 := Lib.hid hC2
     replace hj := Lib.hid hj
     replace hx := Lib.hid hx
     replace hlc := Lib.hid hlc
     replace ep := Lib.hid ep
     replace hp := Lib.hid hp
     go_upto_region 9 with ((with_reducible refine wpList_storeI 3 aq hpl .i64 (j : Int) ?_ ?_ size_intT ?_); rfl; rfl; intro w5 a5 f5)
     have hset := hset.out
     unfold iv at hset
     rw [hset] at a5
     have b5 := bw.trans (f5.below (B := w.heap.size) (fun t ht => by omega) bw.size)
     obtain ⟨r1, r2⟩ := (T.below b5).nth j x hx.out
     obtain ⟨c100, _⟩ := ndc_at r2
     have c100 := rg_cell r1 c100
     have c1 := (T.below b5).av.cell 1 _ rfl
     have m0 : (0 : Int) ≤ (j : Int) := by omega
     have m1 : (j : Int) < (n : Int) := by have := hlen.out; omega
     obtain ⟨y, hy⟩ : ∃ y, y = x.par := ⟨_, rfl⟩
     rw [← hy] at c100
     have hnx : q + 1 ≤ G → y = (tAnc ns k (q + 1) : Nat) := fun h => by
      have hj0 : j ≠ 0 := by
       intro e
       have := (ok.hgt_0 p1).2 e
       omega
      rw [hy, ok.par hx.out hj0, tAnc, ← hj.out]
     replace hnx := Lib.hid hnx
     replace hy := Lib.hid hy
     replace a5 := Lib.hid a5
     clear hset r1 r2 f5 aq p2 p3 hle
     go_wp2
     refine ⟨⟨q + 1, y, by omega, ?_, rfl, hnx.out, by rw [← hC2.out]; exact a5.out, b5⟩, ?_⟩
     ·have := ep.out
      congr 1
      omega
     ·simp [intOf]
 ·rw [nodeV_out hin] at HN
  have hZ2 : Z = [] := by rw [hZ, lineL, if_neg hin]
  subst hZ2
  have one2 := Lib.hid zcN_one
  replace HN := Lib.hid HN
  clear hin hi hZ
  go_enter Tryd.func27, Tryd.ntmps27
  go_upto_region 2 with (first
   | (go_at_call 52; refine (HN.out).mono ?_; rintro e w1 ⟨rfl, b1⟩)
   | ((with_reducible refine wpList_storeF 141 ((Below.refl w1.heap.size w1).alloc (Nat.le_refl _) _) (heap_alloc_new _ _) (Nat.le_refl _) (ndc zeroNd) ?_ ?_ 106 ?_ ?_ ?_ ?_ ?_); rfl; rfl; exact zcN_len; kernel_rfl; exact zcN_len; exact one2.out; intro w2 a2 b2 k2 z2; clear k2; replace z2 := Lib.hid z2))
  have b3 := b1.trans (b2.mono b1.size)
  go_wp2
  go_ret
  exact ⟨⟨_, rfl, none, 0, 0, rfl, rfl, .inl rfl⟩, b3⟩
end Go.Proofs.YtobjgebojhjhnaaDoor
