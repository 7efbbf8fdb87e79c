import Derived.Test.YtobjgebojhjhnaaDoorQr8
import Derived.Test.YtobjgebojhjhnaaDoorQr11
import Derived.Test.YtobjgebojhjhnaaDoorUd
import Derived.Test.YtobjgebojhjhnaaDoorRelO
namespace Go.Proofs.YtobjgebojhjhnaaDoor
open Go.RowKit
structure Nd where
 id : List UInt8
 head : Hd
 par : Int
 hgt : Nat
 wrk : Nat
def mWork (b : Nat) : Nat := match mExp b with
 | none => 0
 | some t => if 115792089237316195423570985008687907853269984665640564039457584007913129639936 ≤ t + 1 then 1 else ((115792089237316195423570985008687907853269984665640564039457584007913129639935 - t) / (t + 1) + 1) % 115792089237316195423570985008687907853269984665640564039457584007913129639936
def tFind (ns : List Nd) (x : List UInt8) : Option Nat := ns.findIdx? fun n => n.id == x
def mNode (ns : List Nd) (h : Hd) : Option Nd :=
 if ns.length = 0 then some ⟨hdId h, h, -1, 0, mWork h.bits⟩
 else match tFind ns h.prev with
  | none => none
  | some i => match ns[i]? with
   | none => none
   | some n => some ⟨hdId h, h, (i : Int), n.hgt + 1, (n.wrk + mWork h.bits) % 115792089237316195423570985008687907853269984665640564039457584007913129639936⟩
def mAdd (most : Nat) (ns : List Nd) (h : Hd) : List Nd × Int × Nat :=
 match tFind ns (hdId h) with
 | some i => (ns, (i : Int), 10)
 | none => match mNode ns h with
  | none => (ns, -1, 9)
  | some n => if most ≤ ns.length then (ns, -1, 12) else (ns ++ [n], (ns.length : Int), 0)
structure TOk (ns : List Nd) : Prop where
 head : ∀ (k : Nat) (n : Nd), ns[k]? = some n → n.head.ok ∧ n.id = hdId n.head ∧ n.wrk < 115792089237316195423570985008687907853269984665640564039457584007913129639936
 root : ∀ n : Nd, ns[0]? = some n → n.par = -1 ∧ n.hgt = 0 ∧ n.wrk = mWork n.head.bits
 step : ∀ (k : Nat) (n : Nd), ns[k]? = some n → k ≠ 0 → ∃ (p : Nat) (m : Nd), n.par = (p : Int) ∧ p < k ∧ ns[p]? = some m ∧ n.hgt = m.hgt + 1 ∧ n.wrk = (m.wrk + mWork n.head.bits) % 115792089237316195423570985008687907853269984665640564039457584007913129639936 ∧ n.head.prev = m.id
 apart : ∀ (i j : Nat) (n m : Nd), ns[i]? = some n → ns[j]? = some m → n.id = m.id → i = j
theorem mWork_lt (b : Nat) : mWork b < 115792089237316195423570985008687907853269984665640564039457584007913129639936 := by
 unfold mWork
 split
 ·omega
 ·split
  ·omega
  ·exact Nat.mod_lt _ (by omega)
theorem tFind_some {ns : List Nd} {x : List UInt8} {i : Nat} (h : tFind ns x = some i) : ∃ n, ns[i]? = some n ∧ n.id = x := by
 unfold tFind at h
 rw [List.findIdx?_eq_some_iff_getElem] at h
 obtain ⟨hi, h1, _⟩ := h
 exact ⟨ns[i], List.getElem?_eq_getElem hi, by simpa using h1⟩
theorem tFind_none {ns : List Nd} {x : List UInt8} (h : tFind ns x = none) : ∀ (i : Nat) (n : Nd), ns[i]? = some n → n.id ≠ x := by
 intro i n hi e
 unfold tFind at h
 rw [List.findIdx?_eq_none_iff] at h
 have := h n (List.mem_of_getElem? hi)
 simp [e] at this
theorem tFind_lt {ns : List Nd} {x : List UInt8} {i : Nat} (h : tFind ns x = some i) : i < ns.length := by
 obtain ⟨n, hn, _⟩ := tFind_some h
 exact (List.getElem?_eq_some_iff.1 hn).1
theorem TOk.nil : TOk [] := ⟨by simp, by simp, by simp, by simp⟩
theorem mNode_id {ns : List Nd} {h : Hd} {n : Nd} (e : mNode ns h = some n) : n.id = hdId h ∧ n.head = h ∧ n.wrk < 115792089237316195423570985008687907853269984665640564039457584007913129639936 := by
 unfold mNode at e
 generalize hdId h = I at *
 split at e
 ·have e := Option.some.inj e
  subst e
  exact ⟨rfl, rfl, mWork_lt _⟩
 ·split at e
  ·cases e
  ·split at e
   ·cases e
   ·have e := Option.some.inj e
    subst e
    refine ⟨rfl, rfl, ?_⟩
    dsimp only
    exact Nat.mod_lt _ (by omega)
theorem snoc_at {α : Type} {l : List α} {x y : α} {k : Nat} (h : (l ++ [x])[k]? = some y) : (l[k]? = some y ∧ k < l.length) ∨ (k = l.length ∧ y = x) := by
 by_cases hk : k < l.length
 ·rw [List.getElem?_append_left hk] at h
  exact .inl ⟨h, hk⟩
 ·have hl := (List.getElem?_eq_some_iff.1 h).1
  rw [List.length_append, List.length_singleton] at hl
  have : k = l.length := by omega
  subst this
  simp at h
  exact .inr ⟨rfl, h.symm⟩
theorem snoc_left {α : Type} {l : List α} {x y : α} {k : Nat} (h : l[k]? = some y) : (l ++ [x])[k]? = some y := by
 rw [List.getElem?_append_left (List.getElem?_eq_some_iff.1 h).1]; exact h
theorem TOk.snoc {ns : List Nd} (ok : TOk ns) {h : Hd} (hh : h.ok) {n : Nd} (e : mNode ns h = some n) (hf : tFind ns (hdId h) = none) : TOk (ns ++ [n]) := by
 obtain ⟨e1, e2, e3⟩ := mNode_id e
 have hno := tFind_none hf
 constructor
 ·intro k m hm
  rcases snoc_at hm with ⟨h1, _⟩ | ⟨_, rfl⟩
  ·exact ok.head k m h1
  ·exact ⟨by rw [e2]; exact hh, by rw [e1, e2], e3⟩
 ·intro m hm
  rcases snoc_at hm with ⟨h1, _⟩ | ⟨h1, rfl⟩
  ·exact ok.root m h1
  ·unfold mNode at e
   rw [if_pos h1.symm] at e
   obtain rfl := Option.some.inj e; exact ⟨rfl, rfl, rfl⟩
 ·intro k m hm hk
  rcases snoc_at hm with ⟨h1, _⟩ | ⟨h1, rfl⟩
  ·obtain ⟨p, q, a, b, c, d⟩ := ok.step k m h1 hk
   exact ⟨p, q, a, b, snoc_left c, d⟩
  ·unfold mNode at e
   rw [if_neg (by omega)] at e
   split at e
   ·cases e
   ·rename_i i hi
    obtain ⟨q, hq, hqi⟩ := tFind_some hi
    rw [hq] at e
    obtain rfl := Option.some.inj e
    exact ⟨i, q, rfl, by have := tFind_lt hi; omega, snoc_left hq, rfl, rfl, hqi.symm⟩
 ·intro i j a b ha hb hab
  rcases snoc_at ha with ⟨h1, _⟩ | ⟨h1, rfl⟩ <;> rcases snoc_at hb with ⟨h2, _⟩ | ⟨h2, rfl⟩
  ·exact ok.apart i j a b h1 h2 hab
  ·exact absurd (hab.trans e1) (hno i a h1)
  ·exact absurd (hab.symm.trans e1) (hno j b h2)
  ·omega
theorem mAdd_ok {most : Nat} {ns : List Nd} (ok : TOk ns) {h : Hd} (hh : h.ok) : TOk (mAdd most ns h).1 := by
 unfold mAdd
 split
 ·exact ok
 ·split
  ·exact ok
  ·rename_i hf _ n hn
   split
   ·exact ok
   ·exact ok.snoc hh hn hf
def mAll (most : Nat) (l : List Hd) : List Nd := l.foldl (fun ns h => (mAdd most ns h).1) []
theorem mAll_snoc (most : Nat) (l : List Hd) (h : Hd) : mAll most (l ++ [h]) = (mAdd most (mAll most l) h).1 := by simp [mAll]
theorem mAll_ok (most : Nat) (l : List Hd) (hl : ∀ h ∈ l, h.ok) : TOk (mAll most l) := by
 have : ∀ (l : List Hd) (ns : List Nd), (∀ h ∈ l, h.ok) → TOk ns → TOk (l.foldl (fun ns h => (mAdd most ns h).1) ns) := by
  intro l
  induction l with
  | nil => intro ns _ h; exact h
  | cons x l ih => intro ns h1 h2; exact ih _ (fun y hy => h1 y (List.mem_cons_of_mem _ hy)) (mAdd_ok h2 (h1 x List.mem_cons_self))
 exact this l [] hl TOk.nil
theorem mAll_take (most : Nat) (l : List Hd) (k : Nat) (h : Hd) (hk : l[k]? = some h) : mAll most (l.take (k + 1)) = (mAdd most (mAll most (l.take k)) h).1 := by
 rw [List.take_add_one, hk]; exact mAll_snoc _ _ _
def tPar (ns : List Nd) (i : Nat) : Nat := match ns[i]? with
 | some n => n.par.toNat
 | none => 0
def tHgt (ns : List Nd) (i : Nat) : Nat := match ns[i]? with
 | some n => n.hgt
 | none => 0
def tWrk (ns : List Nd) (i : Nat) : Nat := match ns[i]? with
 | some n => n.wrk
 | none => 0
def tAnc (ns : List Nd) (i : Nat) : Nat → Nat
 | 0 => i
 | d + 1 => tPar ns (tAnc ns i d)
theorem tAt {ns : List Nd} {i : Nat} {n : Nd} (h : ns[i]? = some n) : tPar ns i = n.par.toNat ∧ tHgt ns i = n.hgt ∧ tWrk ns i = n.wrk := by
 simp [tPar, tHgt, tWrk, h]
theorem TOk.up {ns : List Nd} (ok : TOk ns) {i : Nat} (hi : i < ns.length) : (tHgt ns i = 0 ∧ i = 0) ∨ (i ≠ 0 ∧ tPar ns i < i ∧ tHgt ns i = tHgt ns (tPar ns i) + 1 ∧ tWrk ns i = (tWrk ns (tPar ns i) + mWork ((ns[i]).head.bits)) % 115792089237316195423570985008687907853269984665640564039457584007913129639936) := by
 have h := List.getElem?_eq_getElem hi
 obtain ⟨a, b, c⟩ := tAt h
 by_cases h0 : i = 0
 ·subst h0
  exact .inl ⟨by rw [b]; exact (ok.root _ h).2.1, rfl⟩
 ·obtain ⟨p, m, e1, e2, e3, e4, e5, _⟩ := ok.step i _ h h0
  obtain ⟨_, b2, c2⟩ := tAt e3
  have : tPar ns i = p := by rw [a, e1]; rfl
  rw [this]
  exact .inr ⟨h0, e2, by rw [b, b2, e4], by rw [c, c2, e5]⟩
theorem TOk.hgt_0 {ns : List Nd} (ok : TOk ns) {i : Nat} (hi : i < ns.length) : tHgt ns i = 0 ↔ i = 0 := by
 rcases ok.up hi with ⟨a, b⟩ | ⟨a, _, b, _⟩ <;> omega
theorem TOk.anc {ns : List Nd} (ok : TOk ns) {i : Nat} (hi : i < ns.length) : ∀ d, d ≤ tHgt ns i → tAnc ns i d < ns.length ∧ tHgt ns (tAnc ns i d) = tHgt ns i - d ∧ tAnc ns i d + d ≤ i
 | 0, _ => ⟨hi, by simp [tAnc], by simp [tAnc]⟩
 | d + 1, hd => by
  obtain ⟨a, b, c⟩ := ok.anc hi d (by omega)
  rcases ok.up a with ⟨e, _⟩ | ⟨_, e1, e2, _⟩
  ·omega
  ·simp only [tAnc]
   omega
theorem TOk.hgt_le {ns : List Nd} (ok : TOk ns) {i : Nat} (hi : i < ns.length) : tHgt ns i ≤ i := by
 have := (ok.anc hi _ (Nat.le_refl _)).2.2
 omega
def mLine (ns : List Nd) (i : Nat) : List Nat := (List.range (tHgt ns i + 1)).map fun k => tAnc ns i (tHgt ns i - k)
def mCom (ns : List Nd) : Nat → Nat → Nat → Nat
 | 0, i, _ => i
 | f + 1, i, j => if i = j then i else if j < i then mCom ns f (tPar ns i) j else mCom ns f i (tPar ns j)
def tIn (ns : List Nd) (c i : Nat) : Prop := ∃ d, d ≤ tHgt ns i ∧ tAnc ns i d = c
def mTip (ns : List Nd) (i : Nat) : Bool := !ns.any fun n => n.par == (i : Int)
def mTips (ns : List Nd) : List Nat := (List.range ns.length).filter (mTip ns)
def tBest (ns : List Nd) : Nat → Nat
 | 0 => 0
 | k + 1 => if tWrk ns (tBest ns k) < tWrk ns k then k else tBest ns k
def mBest (ns : List Nd) : Nat := tBest ns ns.length
def easyB (b : Nat) : Bool := decide (538968063 ≤ b) && decide (b ≤ 545259519)
end Go.Proofs.YtobjgebojhjhnaaDoor
namespace Go.Proofs.YtobjgebojhjhnaaDoor
open Go.RowKit
theorem xor_max (x : Nat) (h : x < 18446744073709551616) : 18446744073709551615 ^^^ x = 18446744073709551615 - x := by
 have h1 : (BitVec.allOnes 64 ^^^ BitVec.ofNat 64 x).toNat = 18446744073709551615 - x := by
  rw [BitVec.allOnes_xor]; simp; omega
 rw [BitVec.toNat_xor, BitVec.toNat_allOnes, BitVec.toNat_ofNat, Nat.mod_eq_of_lt (by omega)] at h1
 exact h1
theorem bits_not (x : Nat) (h : x < 18446744073709551616) : bits .xor .u64 IntKind.u64.max (x : Int) = ((18446744073709551616 - 1 - x : Nat) : Int) := by
 have e := xor_max x h
 rw [show 18446744073709551616 - 1 - x = 18446744073709551615 - x from rfl, ← e]
 unfold bits
 simp
 rw [show (IntKind.u64.max % 2 ^ IntKind.u64.bits).toNat = 18446744073709551615 from by decide, show x % 2 ^ IntKind.u64.bits = x from Nat.mod_eq_of_lt (by rw [show 2 ^ IntKind.u64.bits = 18446744073709551616 from by decide]; exact h), IntKind.wrap_u64, e]
 omega
theorem lim_not (n : Nat) (h : n < 115792089237316195423570985008687907853269984665640564039457584007913129639936) : uc (115792089237316195423570985008687907853269984665640564039457584007913129639936 - 1 - n) = uq4 (18446744073709551616 - 1 - lim n 0) (18446744073709551616 - 1 - lim n 1) (18446744073709551616 - 1 - lim n 2) (18446744073709551616 - 1 - lim n 3) := by
 have hs := lim_sum h
 have l0 := lim_lt n 0
 have l1 := lim_lt n 1
 have l2 := lim_lt n 2
 have l3 := lim_lt n 3
 obtain ⟨N, hN, hNs, q0, q1, q2, q3⟩ := lim_of (18446744073709551616 - 1 - lim n 0) (18446744073709551616 - 1 - lim n 1) (18446744073709551616 - 1 - lim n 2) (18446744073709551616 - 1 - lim n 3) (by omega) (by omega) (by omega) (by omega)
 have e : 115792089237316195423570985008687907853269984665640564039457584007913129639936 - 1 - n = N := by
  rw [hNs]
  clear q0 q1 q2 q3
  omega
 rw [e, uc, q0, q1, q2, q3]
set_option maxRecDepth 100000 in
set_option maxHeartbeats 1000000 in
theorem UNot (n : Nat) (hn : n < 115792089237316195423570985008687907853269984665640564039457584007913129639936) (w : World) :
  Calls Tryd.prog 83 #[.agg (uc n).toArray] w fun e w' => e = .returned (.agg (uc (115792089237316195423570985008687907853269984665640564039457584007913129639936 - 1 - n)).toArray) ∧ Below w.heap.size w w' := by
 rw [lim_not n hn]
 have l0 := lim_lt n 0
 have l1 := lim_lt n 1
 have l2 := lim_lt n 2
 have l3 := lim_lt n 3
 unfold uc
 generalize lim n 0 = x0 at *
 generalize lim n 1 = x1 at *
 generalize lim n 2 = x2 at *
 generalize lim n 3 = x3 at *
 have g0 := bits_not x0 l0
 have g1 := bits_not x1 l1
 have g2 := bits_not x2 l2
 have g3 := bits_not x3 l3
 have hsg : IntKind.u64.signed = false := rfl
 generalize 18446744073709551616 - 1 - x0 = y0 at *
 generalize 18446744073709551616 - 1 - x1 = y1 at *
 generalize 18446744073709551616 - 1 - x2 = y2 at *
 generalize 18446744073709551616 - 1 - x3 = y3 at *
 obtain ⟨W, hW⟩ : ∃ W, W = (w.alloc (.cells (uq4 x0 x1 x2 x3).toArray 139)).alloc (.cells #[.int .u64 0, .int .u64 0, .int .u64 0, .int .u64 0] 139) := ⟨_, rfl⟩
 obtain ⟨H, hH⟩ : ∃ H, H = w.heap.size := ⟨_, rfl⟩
 have bW : Below w.heap.size w W := by rw [hW]; exact ((Below.refl _ _).alloc (Nat.le_refl _) _).alloc (by simp) _
 have aA : Av W H 139 (uq4 x0 x1 x2 x3) := by rw [hW, hH]; exact heap_alloc2_old _ _ _
 have aR : Av W (H + 1) 139 (uq4 0 0 0 0) := by rw [hW, hH]; exact heap_alloc2_new _ _ _
 have c0 := aA.cell 0 _ rfl
 have c1 := aA.cell 1 _ rfl
 have c2 := aA.cell 2 _ rfl
 have c3 := aA.cell 3 _ rfl
 have hHw : w.heap.size ≤ H + 1 := by rw [hH]; omega
 replace hW := Lib.hid hW
 replace hH := Lib.hid hH
 go_enter Tryd.func83, Tryd.ntmps83
 go_upto_region 1 with fail
 rw [← hW.out, ← hH.out]
 go_wp2_with ((with_reducible refine wpList_storeFA 139 bW aR hHw (uq4 y0 y1 y2 y3) ?_ ?_ 4 ?_ ?_ ?_ ?_ ?_); rfl; rfl; rfl; kernel_rfl; rfl; rfl; intro w6 a6 b6 k6 z6)
 refine bodyPost_ret (results_cell_row rfl _ _ (H + 1) _ _ (0, 0) _ (by rfl) a6 Tryd.underlying139 rfl (by kernel_rfl)) rfl ⟨rfl, b6⟩
set_option maxRecDepth 100000 in
set_option maxHeartbeats 4000000 in
theorem TWork_no (b : Nat) (hb : b < 4294967296) (h : mExp b = none) (w : World) :
  Calls Tryd.prog 57 #[.int .u32 (b : Int)] w fun e w' => e = .returned (.agg (uc 0).toArray) ∧ Below w.heap.size w w' := by
 have HE := TExp b hb
 rw [expV_none h] at HE
 obtain ⟨W, hW⟩ : ∃ W, W = w.alloc (.cells #[.int .u64 0, .int .u64 0, .int .u64 0, .int .u64 0] 139) := ⟨_, rfl⟩
 obtain ⟨H, hH⟩ : ∃ H, H = w.heap.size := ⟨_, rfl⟩
 have bW : Below H w W := by rw [hW, hH]; exact (Below.refl _ _).alloc (Nat.le_refl _) _
 have aR : Av W H 139 (uq4 0 0 0 0) := by rw [hW, hH]; exact heap_alloc_new _ _
 replace HE := Lib.hid HE
 replace hW := Lib.hid hW
 replace hH := Lib.hid hH
 have z4 : uc 0 = uq4 0 0 0 0 := uc_zero
 replace z4 := Lib.hid z4
 go_enter Tryd.func57, Tryd.ntmps57
 go_upto_region 1 with fail
 rw [← hW.out, ← hH.out]
 go_upto_region 2 with (first
  | (go_at_call 80; refine (HE.out W).mono ?_; rintro e w1 ⟨rfl, b1⟩)
  | ((with_reducible refine wpList_storeF 139 ((Below.refl w1.heap.size w1).alloc (Nat.le_refl _) _) (heap_alloc_new _ _) (Nat.le_refl _) (uc 0) ?_ ?_ 4 ?_ ?_ ?_ ?_ ?_); rfl; rfl; rfl; kernel_rfl; rfl; rfl; intro w2 a2 b2 k2 z2; clear k2; replace z2 := Lib.hid z2))
 have hlt := aR.lt
 have c2 : Below H w w2 := (bW.trans (b1.mono (Nat.le_of_lt hlt))).trans (b2.mono (Nat.le_trans (Nat.le_of_lt hlt) b1.size))
 have r2 := (aR.below b1).below b2
 clear b1 b2 a2 bW aR
 go_wp2_with ((with_reducible refine wpList_storeFA 139 c2 r2 (Nat.le_refl _) (uq4 0 0 0 0) ?_ ?_ 4 ?_ ?_ ?_ ?_ ?_); rfl; rfl; rfl; kernel_rfl; rfl; rfl; intro w6 a6 b6 k6 z6; clear k6; replace z6 := Lib.hid z6)
 refine bodyPost_ret (results_cell_row rfl _ _ H _ _ (0, 0) _ (by rfl) a6 Tryd.underlying139 rfl (by kernel_rfl)) rfl ⟨by rw [z4.out], by rw [← hH.out]; exact b6⟩
set_option maxRecDepth 100000 in
set_option maxHeartbeats 4000000 in
theorem TWork_yes (b t : Nat) (hb : b < 4294967296) (h : mExp b = some t) (w : World) :
  Calls Tryd.prog 57 #[.int .u32 (b : Int)] w fun e w' => e = .returned (.agg (uc (mWork b)).toArray) ∧ Below w.heap.size w w' := by
 have HE := TExp b hb
 rw [expV_some h] at HE
 obtain ⟨ht, ht0⟩ := mExp_lt h
 obtain ⟨R, hR⟩ : ∃ R, R = mWork b := ⟨_, rfl⟩
 have hR2 : R = if 115792089237316195423570985008687907853269984665640564039457584007913129639936 ≤ t + 1 then 1 else ((115792089237316195423570985008687907853269984665640564039457584007913129639936 - 1 - t) / (t + 1) + 1) % 115792089237316195423570985008687907853269984665640564039457584007913129639936 := by rw [hR, mWork, h]
 rw [← hR]
 obtain ⟨W, hW⟩ : ∃ W, W = w.alloc (.cells #[.int .u64 0, .int .u64 0, .int .u64 0, .int .u64 0] 139) := ⟨_, rfl⟩
 obtain ⟨H, hH⟩ : ∃ H, H = w.heap.size := ⟨_, rfl⟩
 have bW : Below H w W := by rw [hW, hH]; exact (Below.refl _ _).alloc (Nat.le_refl _) _
 have aR : Av W H 139 (uq4 0 0 0 0) := by rw [hW, hH]; exact heap_alloc_new _ _
 have HO := UOf 1 (by omega)
 have HA := UAdd t 1 ht (by omega)
 obtain ⟨V, hV⟩ : ∃ V, V = (t + 1) % 115792089237316195423570985008687907853269984665640564039457584007913129639936 := ⟨_, rfl⟩
 obtain ⟨o, ho⟩ : ∃ o, o = decide (115792089237316195423570985008687907853269984665640564039457584007913129639936 ≤ t + 1) := ⟨_, rfl⟩
 rw [← hV, ← ho] at HA
 replace HE := Lib.hid HE
 replace HO := Lib.hid HO
 replace HA := Lib.hid HA
 replace hW := Lib.hid hW
 replace hH := Lib.hid hH
 replace hR := Lib.hid hR
 replace hR2 := Lib.hid hR2
 replace hV := Lib.hid hV
 replace ho := Lib.hid ho
 go_enter Tryd.func57, Tryd.ntmps57
 go_upto_region 1 with fail
 rw [← hW.out, ← hH.out]
 go_upto_region 2 with (first
  | (go_at_call 80; refine (HE.out W).mono ?_; rintro e w1 ⟨rfl, b1⟩)
  | ((with_reducible refine wpList_storeF 139 ((Below.refl w1.heap.size w1).alloc (Nat.le_refl _) _) (heap_alloc_new _ _) (Nat.le_refl _) (uc t) ?_ ?_ 4 ?_ ?_ ?_ ?_ ?_); rfl; rfl; rfl; kernel_rfl; rfl; rfl; intro w2 a2 b2 k2 z2; clear k2; replace z2 := Lib.hid z2))
 have hlt := aR.lt
 have c2 : Below H w w2 := (bW.trans (b1.mono (Nat.le_of_lt hlt))).trans (b2.mono (Nat.le_trans (Nat.le_of_lt hlt) b1.size))
 have r2 := (aR.below b1).below b2
 have hg : H < w1.heap.size := Nat.lt_of_lt_of_le hlt b1.size
 obtain ⟨G, hG⟩ : ∃ G, G = w1.heap.size := ⟨_, rfl⟩
 rw [← hG] at hg a2 ⊢
 have a3 := a2
 clear b1 b2 a2 bW aR hG
 go_upto_region 4 with fail
 refine wp_region_relO [⟨6, 5, 7, 139, uq4 0 0 0 0, uc V⟩] [] (by kernel_rfl) (by kernel_rfl) (by kernel_rfl) (by kernel_rfl) (by kernel_rfl) (by intro e he; cases he) (by simp) (by intro e he; cases he) ?_
 refine oPure rfl rfl rfl rfl (c := .agg (uc t).toArray) (fun w hw => exec_loadAv (a3.below hw.nil) _ _ rfl rfl _ 4 rfl Tryd.underlying139 rfl (by kernel_rfl)) (by simp only [Zs]; rfl) ?_
 refine oCall1 rfl rfl rfl rfl (c := .agg (uc 1).toArray) 81 #[.int .u64 1] (fun w => by go_simp) (fun w hw => (HO.out w).mono (by rintro e w' ⟨rfl, b⟩; exact ⟨rfl, b⟩)) (by simp only [Zs]; rfl) ?_
 refine oCall1 rfl rfl rfl rfl (c := .tuple #[.agg (uc V).toArray, .bool o]) 59 #[.agg (uc t).toArray, .agg (uc 1).toArray] (fun w => by go_simp) (fun w hw => (HA.out w).mono (by rintro e w' ⟨rfl, b⟩; exact ⟨rfl, b⟩)) (by simp only [Zs]; rfl) ?_
 refine oMove rfl rfl rfl rfl _ (.inl rfl) (by conv => lhs; whnf) (by simp only [Zs]; rfl) ?_
 refine oPure rfl rfl rfl rfl (c := .agg (uc V).toArray) (fun w _ => by go_simp; first | done | rfl) (by simp only [Zs]; rfl) ?_
 refine oPure rfl rfl rfl rfl (c := .bool o) (fun w _ => by go_simp; first | done | rfl) (by simp only [Zs]; rfl) ?_
 refine oAlloc rfl rfl (fun ρ w => by unfold execOp; go_simp; rfl) ?_
 refine oStore rfl rfl (fun w hw => fill_take rfl rfl fun v _ => fill_end fun b hb h0 => ?_) ?_
 ·simp at hb
  subst hb
  exact bStoreRow h0 rfl _ _ _ rfl rfl rfl 4 rfl (by kernel_rfl) rfl
 refine oMove rfl rfl rfl rfl _ (.inr rfl) (by conv => lhs; whnf) (by simp only [Zs]; rfl) ?_
 refine oEnd fun w4 hw4 => fill_take rfl rfl fun v _ => fill_end fun hJ _ => ?_
 obtain ⟨gV, hb, hB, aV⟩ := hJ.at_ ⟨6, 5, 7, 139, uq4 0 0 0 0, uc V⟩ (List.mem_cons_self ..) rfl
 simp at hb
 subst hb
 replace aV : Av w4 gV 139 (uc V) := aV
 have b4 : Below w2.heap.size w2 w4 := hw4.nil
 have c4 := c2.trans (b4.mono (Nat.le_of_lt r2.lt))
 have a4 := a3.below b4
 have r4 := r2.below b4
 have gV2 : H < gV := Nat.lt_of_lt_of_le r2.lt hB
 clear hw4 hJ r2 a3 b4 hB
 simp only [List.set_cons_succ, List.set_cons_zero]
 cases o with
 | true =>
  have hRe : R = 1 := by rw [hR2.out, if_pos (by have := ho.out; simpa using this)]
  replace hRe := Lib.hid hRe
  have hHG : H ≤ H := Nat.le_refl _
  go_wp2_with (first
   | (go_at_call 81; refine (HO.out w4).mono ?_; rintro e w5 ⟨rfl, b5⟩; have c5 := c4.trans (b5.mono (Nat.le_of_lt r4.lt)); have r5 := r4.below b5)
   | ((with_reducible refine wpList_storeFA 139 c5 r5 hHG (uc 1) ?_ ?_ 4 ?_ ?_ ?_ ?_ ?_); rfl; rfl; rfl; kernel_rfl; rfl; rfl; intro w6 a6 b6 k6 z6; clear k6; replace z6 := Lib.hid z6))
  refine bodyPost_ret (results_cell_row rfl _ _ H _ _ (0, 0) _ (by rfl) a6 Tryd.underlying139 rfl (by kernel_rfl)) rfl ⟨by rw [hRe.out], by rw [← hH.out]; exact b6⟩
 | false =>
  have hno : ¬ 115792089237316195423570985008687907853269984665640564039457584007913129639936 ≤ t + 1 := by have := ho.out; simpa using this
  have hV1 : V = t + 1 := by rw [hV.out, Nat.mod_eq_of_lt (by omega)]
  have HN := UNot t ht
  obtain ⟨N, hN⟩ : ∃ N, N = 115792089237316195423570985008687907853269984665640564039457584007913129639936 - 1 - t := ⟨_, rfl⟩
  rw [← hN] at HN
  have HD := UDiv N V (by omega) (by omega) (by omega)
  obtain ⟨q, hq⟩ : ∃ q, q = N / V := ⟨_, rfl⟩
  obtain ⟨r, hr⟩ : ∃ r, r = N % V := ⟨_, rfl⟩
  have hql : q ≤ N := by rw [hq]; exact Nat.div_le_self _ _
  have HX := UAdd q 1 (by omega) (by omega)
  obtain ⟨X, hX⟩ : ∃ X, X = (q + 1) % 115792089237316195423570985008687907853269984665640564039457584007913129639936 := ⟨_, rfl⟩
  obtain ⟨ox, hox⟩ : ∃ o, o = decide (115792089237316195423570985008687907853269984665640564039457584007913129639936 ≤ q + 1) := ⟨_, rfl⟩
  rw [← hX, ← hox] at HX
  rw [← hq, ← hr] at HD
  have hRe : R = X := by rw [hR2.out, if_neg hno, hX, hq, hN, hV1]
  replace hRe := Lib.hid hRe
  replace HN := Lib.hid HN
  replace HD := Lib.hid HD
  replace HX := Lib.hid HX
  clear hX hox hq hr hql hN hV1 hno
  go_upto_region 7 with fail
  refine wp_region_relO [⟨8, 7, 10, 139, uq4 0 0 0 0, uc q⟩, ⟨9, 8, 11, 139, uq4 0 0 0 0, uc r⟩] [] (by kernel_rfl) (by kernel_rfl) (by kernel_rfl) (by kernel_rfl) (by kernel_rfl) (by intro e he; cases he) (by simp) (by intro e he; cases he) ?_
  refine oPure rfl rfl rfl rfl (c := .agg (uc t).toArray) (fun w hw => exec_loadAv (a4.below hw.nil) _ _ rfl rfl _ 4 rfl Tryd.underlying139 rfl (by kernel_rfl)) (by simp only [Zs]; rfl) ?_
  refine oCall1 rfl rfl rfl rfl (c := .agg (uc N).toArray) 83 #[.agg (uc t).toArray] (fun w => by go_simp) (fun w hw => (HN.out w).mono (by rintro e w' ⟨rfl, b⟩; exact ⟨rfl, b⟩)) (by simp only [Zs]; rfl) ?_
  refine oPure rfl rfl rfl rfl (c := .agg (uc V).toArray) (fun w hw => exec_loadAv (aV.below hw.nil) _ _ rfl rfl _ 4 rfl Tryd.underlying139 rfl (by kernel_rfl)) (by simp only [Zs]; rfl) ?_
  refine oCall1 rfl rfl rfl rfl (c := .tuple #[.agg (uc q).toArray, .agg (uc r).toArray, .bool true]) 82 #[.agg (uc N).toArray, .agg (uc V).toArray] (fun w => by go_simp) (fun w hw => (HD.out w).mono (by rintro e w' ⟨rfl, b⟩; exact ⟨rfl, b⟩)) (by simp only [Zs]; rfl) ?_
  refine oMove rfl rfl rfl rfl _ (.inl rfl) (by conv => lhs; whnf) (by simp only [Zs]; rfl) ?_
  refine oPure rfl rfl rfl rfl (c := .agg (uc q).toArray) (fun w _ => by go_simp; first | done | rfl) (by simp only [Zs]; rfl) ?_
  refine oPure rfl rfl rfl rfl (c := .agg (uc r).toArray) (fun w _ => by go_simp; first | done | rfl) (by simp only [Zs]; rfl) ?_
  refine oPure rfl rfl rfl rfl (c := .bool true) (fun w _ => by go_simp; first | done | rfl) (by simp only [Zs]; rfl) ?_
  refine oAlloc rfl rfl (fun ρ w => by unfold execOp; go_simp; rfl) ?_
  refine oAlloc rfl rfl (fun ρ w => by unfold execOp; go_simp; rfl) ?_
  refine oStore rfl rfl (fun w hw => fill_take rfl rfl fun v _ => fill_skip rfl (fill_end fun b hb h0 => ?_)) ?_
  ·simp at hb
   subst hb
   exact bStoreRow h0 rfl _ _ _ rfl rfl rfl 4 rfl (by kernel_rfl) rfl
  refine oStore rfl rfl (fun w hw => fill_skip rfl (fill_take rfl rfl fun v _ => fill_end fun b hb h0 => ?_)) ?_
  ·simp at hb
   subst hb
   exact bStoreRow h0 rfl _ _ _ rfl rfl rfl 4 rfl (by kernel_rfl) rfl
  refine oMove rfl rfl rfl rfl _ (.inr rfl) (by conv => lhs; whnf) (by simp only [Zs]; rfl) ?_
  refine oEnd fun w5 hw5 => fill_take rfl rfl fun v _ => fill_take rfl rfl fun v' _ => fill_end fun hJ _ => ?_
  obtain ⟨g7, hb, hB, a7⟩ := hJ.at_ ⟨8, 7, 10, 139, uq4 0 0 0 0, uc q⟩ (List.mem_cons_self ..) rfl
  obtain ⟨g8, hb', _, _⟩ := hJ.at_ ⟨9, 8, 11, 139, uq4 0 0 0 0, uc r⟩ (List.mem_cons_of_mem _ (List.mem_cons_self ..)) rfl
  simp at hb hb'
  subst hb hb'
  replace a7 : Av w5 g7 139 (uc q) := a7
  have b5 : Below w4.heap.size w4 w5 := hw5.nil
  have c5 := c4.trans (b5.mono (Nat.le_of_lt r4.lt))
  have r5 := r4.below b5
  have g7H : H < g7 := Nat.lt_of_lt_of_le r4.lt hB
  have g7H' : H ≤ g7 := Nat.le_of_lt g7H
  clear hw5 hJ r4 a4 b5 hB c4 aV
  simp only [List.set_cons_succ, List.set_cons_zero]
  go_upto_region 8 with fail
  refine wp_region_relO [] [Old.one g7 139 6 (uc q) (uc X)] (by kernel_rfl) (by kernel_rfl) (by kernel_rfl) (by kernel_rfl) (by kernel_rfl) (by intro e he; simp only [List.mem_cons, List.not_mem_nil, or_false] at he; subst he; exact Old.one_con _ _ _ _ _) (by simp) (by intro e he; simp only [List.mem_cons, List.not_mem_nil, or_false] at he; subst he; exact a7) ?_
  refine oPureJ rfl rfl rfl rfl (c := .agg (uc q).toArray) (fun w hw hJ => exec_loadAv (JN.one hJ (List.mem_cons_self ..) rfl rfl) _ _ rfl rfl _ 4 rfl Tryd.underlying139 rfl (by kernel_rfl)) (by simp only [Zs]; rfl) ?_
  refine oCall1 rfl rfl rfl rfl (c := .agg (uc 1).toArray) 81 #[.int .u64 1] (fun w => by go_simp) (fun w hw => (HO.out w).mono (by rintro e w' ⟨rfl, b⟩; exact ⟨rfl, b⟩)) (by simp only [Zs]; rfl) ?_
  refine oCall1 rfl rfl rfl rfl (c := .tuple #[.agg (uc X).toArray, .bool ox]) 59 #[.agg (uc q).toArray, .agg (uc 1).toArray] (fun w => by go_simp) (fun w hw => (HX.out w).mono (by rintro e w' ⟨rfl, b⟩; exact ⟨rfl, b⟩)) (by simp only [Zs]; rfl) ?_
  refine oMove rfl rfl rfl rfl _ (.inl rfl) (by conv => lhs; whnf) (by simp only [Zs]; rfl) ?_
  refine oPure rfl rfl rfl rfl (c := .agg (uc X).toArray) (fun w _ => by go_simp; first | done | rfl) (by simp only [Zs]; rfl) ?_
  refine oPure rfl rfl rfl rfl (c := .bool ox) (fun w _ => by go_simp; first | done | rfl) (by simp only [Zs]; rfl) ?_
  refine oOld rfl rfl rfl rfl (fun w hw => fill_end fun f hf h0 => ?_) ?_
  ·exact oOldRow hf h0 rfl _ _ _ rfl rfl rfl 4 rfl (by kernel_rfl) rfl
  refine oEnd fun w6 hw6 => fill_end fun _ hO => ?_
  have a8 : Av w6 g7 139 (uc X) := hO (Old.one g7 139 6 (uc q) (uc X)) (List.mem_cons_self ..)
  have c6 := c5.trans (hw6.low (Nat.le_of_lt r5.lt) (by intro e he; simp only [List.mem_cons, List.not_mem_nil, or_false] at he; subst he; exact g7H'))
  have r6 : Av w6 H 139 (uq4 0 0 0 0) := Fo.av hw6 r5 (by intro e he; simp only [List.mem_cons, List.not_mem_nil, or_false] at he; subst he; simp only [Old.one]; omega)
  clear hw6 hO r5 a7 c5
  have hHG : H ≤ H := Nat.le_refl _
  go_wp2_with (first
   | ((with_reducible refine wpList_loadF 139 a8 ?_ _ 4 ?_ Tryd.underlying139 ?_ ?_ ?_); rfl; rfl; rfl; kernel_rfl)
   | ((with_reducible refine wpList_storeFA 139 c6 r6 hHG (uc X) ?_ ?_ 4 ?_ ?_ ?_ ?_ ?_); rfl; rfl; rfl; kernel_rfl; rfl; rfl; intro w7 a9 b9 k9 z9; clear k9; replace z9 := Lib.hid z9))
  refine bodyPost_ret (results_cell_row rfl _ _ H _ _ (0, 0) _ (by rfl) a9 Tryd.underlying139 rfl (by kernel_rfl)) rfl ⟨by rw [hRe.out], by rw [← hH.out]; exact b9⟩
theorem TWork (b : Nat) (hb : b < 4294967296) (w : World) :
  Calls Tryd.prog 57 #[.int .u32 (b : Int)] w fun e w' => e = .returned (.agg (uc (mWork b)).toArray) ∧ Below w.heap.size w w' := by
 cases h : mExp b with
 | none =>
  rw [show mWork b = 0 by rw [mWork, h]]
  exact TWork_no b hb h w
 | some t => exact TWork_yes b t hb h w
end Go.Proofs.YtobjgebojhjhnaaDoor
