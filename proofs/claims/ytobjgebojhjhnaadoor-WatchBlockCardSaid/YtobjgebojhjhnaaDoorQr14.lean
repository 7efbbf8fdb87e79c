import Derived.Test.YtobjgebojhjhnaaDoorTbA
import Derived.Test.YtobjgebojhjhnaaDoorTxC
import Derived.Test.YtobjgebojhjhnaaDoorQr9
import Derived.Test.YtobjgebojhjhnaaDoorQr13
import Derived.Conc.MuLone
namespace Go.Proofs.YtobjgebojhjhnaaDoor
open Go.RowKit
structure Sn where
 id : List UInt8
 blk : List UInt8
 pos : Int
deriving DecidableEq
def Sn.ok (s : Sn) : Prop := s.id.length = 32 ∧ s.blk.length = 32
def snc (s : Sn) : List Value := s.id.map bv ++ (s.blk.map bv ++ [.int .i64 s.pos])
def snl (l : List Sn) : List Value := l.flatMap snc
def OkSns (l : List Sn) : Prop := ∀ s ∈ l, s.ok
def RdSns (w : World) (A : Option Addr) (l : List Sn) : Prop := Rd w A (snl l) ∧ OkSns l
theorem snc_length {s : Sn} (h : s.ok) : (snc s).length = 65 := by simp [snc, h.1, h.2]
theorem snc_one (s : Sn) : ∀ u ∈ snc s, u.oneCell' = true := by
 intro u hu
 simp only [snc, List.mem_append, List.mem_map, List.mem_cons, List.not_mem_nil, or_false] at hu
 rcases hu with ⟨_, _, rfl⟩ | ⟨_, _, rfl⟩ | rfl <;> rfl
theorem snl_one (l : List Sn) : ∀ u ∈ snl l, u.oneCell' = true := by
 intro u hu
 obtain ⟨s, _, h⟩ := List.mem_flatMap.1 hu
 exact snc_one s u h
theorem snl_length {l : List Sn} (h : OkSns l) : (snl l).length = l.length * 65 := flat_length snc 65 l fun s hs => snc_length (h s hs)
theorem snc_pos {s : Sn} (h : s.ok) : (snc s)[64]? = some (.int .i64 s.pos) := by
 unfold snc
 rw [List.getElem?_append_right (by simp [h.1]), List.getElem?_append_right (by simp [h.1, h.2])]
 simp [h.1, h.2]
theorem RdSns.below {w w' : World} {A : Option Addr} {l : List Sn} (h : RdSns w A l) (b : Below w.heap.size w w') : RdSns w' A l := ⟨h.1.below b, h.2⟩
theorem RdSns.nil (w : World) (A : Option Addr) : RdSns w A [] := ⟨Rd.nil w A, fun _ h => by cases h⟩
theorem RdSns.adr {w : World} {A : Option Addr} {l : List Sn} (h : RdSns w A l) (hl : 0 < l.length) : ∃ b off, A = some ⟨b, off, none⟩ := by
 rcases h.1 with h1 | ⟨b, off, h1, _⟩
 ·have := snl_length h.2
  rw [h1] at this
  simp at this
  omega
 ·exact ⟨b, off, h1⟩
theorem RdSns.nth {w : World} {b off : Nat} {l : List Sn} (h : RdSns w (some ⟨b, off, none⟩) l) (k : Nat) (s : Sn) (hk : l[k]? = some s) : w.rangeAt b (off + k * 65) (snc s) ∧ s.ok :=
 ⟨Rd.piece snc 65 l (fun s hs => snc_length (h.2 s hs)) h.1 k s hk, h.2 s (List.mem_of_getElem? hk)⟩
theorem rg_sn_id {w : World} {b o : Nat} {s : Sn} (r : w.rangeAt b o (snc s)) : w.rangeAt b o (s.id.map bv) := fun j u hu => by
 refine r j u ?_
 unfold snc
 rw [List.getElem?_append_left (List.getElem?_eq_some_iff.1 hu).1]
 exact hu
theorem rg_sn_blk {w : World} {b o : Nat} {s : Sn} (h : s.ok) (r : w.rangeAt b o (snc s)) : w.rangeAt b (o + 32) (s.blk.map bv) := fun j u hu => by
 have hj := (List.getElem?_eq_some_iff.1 hu).1
 have := r (32 + j) u (by
  unfold snc
  rw [List.getElem?_append_right (by simp [h.1]), List.getElem?_append_left (by simpa [h.1] using hj), ← hu]
  congr 1
  simp [h.1])
 rw [show o + 32 + j = o + (32 + j) by omega]
 exact this
def ixOf {α : Type} [BEq α] (l : List α) (x : α) : Int := match l.findIdx? (fun y => x == y) with
 | some i => (i : Int)
 | none => -1
section
variable {α : Type} [BEq α]
theorem ix_yes {l : List α} {x y : α} {j : Nat} (hy : l[j]? = some y) (h : (x == y) = true) (hl : ∀ i, i < j → ∀ z, l[i]? = some z → (x == z) = false) : ixOf l x = (j : Int) := by
 unfold ixOf
 obtain ⟨h1, h2⟩ := List.getElem?_eq_some_iff.1 hy
 rw [List.findIdx?_eq_some_iff_getElem.2 ⟨h1, by rw [h2]; exact h, fun i hi => by
  rw [hl i hi _ (List.getElem?_eq_getElem (by omega))]; simp⟩]
theorem ix_no {l : List α} {x : α} (hl : ∀ i, i < l.length → ∀ z, l[i]? = some z → (x == z) = false) : ixOf l x = -1 := by
 unfold ixOf
 rw [List.findIdx?_eq_none_iff.2 fun z hz => by
  obtain ⟨i, hi, rfl⟩ := List.getElem_of_mem hz
  exact hl i hi _ (List.getElem?_eq_getElem hi)]
theorem ix_ge [LawfulBEq α] (l : List α) (x : α) : decide ((0 : Int) ≤ ixOf l x) = l.contains x := by
 unfold ixOf
 rw [Bool.eq_iff_iff, List.contains_iff_mem, decide_eq_true_eq]
 cases h : l.findIdx? (fun y => x == y) with
 | none =>
  rw [List.findIdx?_eq_none_iff] at h
  simp only
  constructor
  ·intro h2; omega
  ·intro h2
   have := h x h2
   simp at this
 | some i =>
  simp only
  obtain ⟨h1, h2, _⟩ := List.findIdx?_eq_some_iff_getElem.1 h
  have e : x = l[i] := by simpa using h2
  constructor
  ·intro _; rw [e]; exact List.getElem_mem h1
  ·intro _; omega
end
structure Cf where
 id : List UInt8
 blk : List UInt8
 pos : Int
 dep : Nat
deriving DecidableEq
def Cf.ok (s : Cf) : Prop := s.id.length = 32 ∧ s.blk.length = 32
def cfc (s : Cf) : List Value := s.id.map bv ++ (s.blk.map bv ++ [.int .i64 s.pos, .int .i64 (s.dep : Int)])
def cfl (l : List Cf) : List Value := l.flatMap cfc
theorem cfc_length {s : Cf} (h : s.ok) : (cfc s).length = 66 := by simp [cfc, h.1, h.2]
theorem cfc_one (s : Cf) : ∀ u ∈ cfc s, u.oneCell' = true := by
 intro u hu
 simp only [cfc, List.mem_append, List.mem_map, List.mem_cons, List.not_mem_nil, or_false] at hu
 rcases hu with ⟨_, _, rfl⟩ | ⟨_, _, rfl⟩ | rfl | rfl <;> rfl
theorem cfc_at {s : Cf} (h : s.ok) : (cfc s)[64]? = some (.int .i64 s.pos) ∧ (cfc s)[65]? = some (.int .i64 (s.dep : Int)) := by
 unfold cfc
 constructor <;>
 ·rw [List.getElem?_append_right (by simp [h.1]), List.getElem?_append_right (by simp [h.1, h.2])]
  simp [h.1, h.2]
theorem part_int (xs : Array Value) (off : Nat) (v : Value) (h : xs[off]? = some v) (w : World) : (part 3 xs off).run Tryd.prog w = .ok v w := by
 simp [part, isAgg, run_underlying Tryd.underlying3, h]
theorem snc_x0 {s : Sn} (h : s.ok) : (snc s).toArray.extract 0 32 = hcs s.id := by
 rw [List.extract_toArray, hcs]
 congr 1
 rw [List.extract_eq_take_drop, List.drop_zero]
 unfold snc
 rw [List.take_append_of_le_length (by simp [h.1]), List.take_of_length_le (by simp [h.1])]
theorem snc_x1 {s : Sn} (h : s.ok) : (snc s).toArray.extract 32 64 = hcs s.blk := by
 rw [List.extract_toArray, hcs]
 congr 1
 rw [List.extract_eq_take_drop]
 unfold snc
 rw [List.drop_left' (by simp [h.1]), List.take_append_of_le_length (by simp [h.2]), List.take_of_length_le (by simp [h.2])]
set_option maxRecDepth 10000 in
theorem eqInSn (T : TypeId) (hu : Tryd.prog.underlying T = some (.struct (Tryd.prog.fieldsOf T))) (hp : Tryd.prog.stoodInHeld T = false) (hf : (Tryd.prog.fieldsOf T).toList.map (fun f => ((f.name == "_"), f.type, f.offset)) = [(false, 30, 0), (false, 30, 32), (false, 3, 64)]) {x y : Sn} (hx : x.ok) (hy : y.ok) (w : World) :
  (Op.equalIn 10000 T (.agg (snc x).toArray) (.agg (snc y).toArray)).run Tryd.prog w = .ok (x == y) w := by
 have p : ∀ (z : Sn) (i : Nat) (v : Value), (snc z)[i]? = some v → (snc z).toArray[i]? = some v := fun z i v h => by simpa using h
 have q1 := run_equalIn_bytes w 9997 30 5 32 Tryd.underlying30 Tryd.underlying5 sizeOf_u8 x.id y.id hx.1 hy.1
 have q2 := run_equalIn_bytes w 9997 30 5 32 Tryd.underlying30 Tryd.underlying5 sizeOf_u8 x.blk y.blk hx.2 hy.2
 have qi := fun (a b : Int) => run_equalIn_int (P := Tryd.prog) w 9998 3 .i64 .i64 a b Tryd.underlying3
 have e0 := run_equalIn_struct (P := Tryd.prog) w 9999 T (snc x).toArray (snc y).toArray hu hp
 generalize (Tryd.prog.fieldsOf T).toList = fs at hf e0
 have hl : fs.length = 3 := by simpa using congrArg List.length hf
 have hfs : ∃ f0 f1 f2, fs = [f0, f1, f2] := by
  match fs, hl with
  | [a, b, c], _ => exact ⟨a, b, c, rfl⟩
 obtain ⟨f0, f1, f2, rfl⟩ := hfs
 ·clear hl
  simp only [List.map_cons, List.map_nil, List.cons.injEq, Prod.mk.injEq, and_true] at hf
  obtain ⟨⟨a0, b0, c0⟩, ⟨a1, b1, c1⟩, ⟨a2, b2, c2⟩⟩ := hf
  refine e0.trans ?_
  refine (eqFields_cons 9999 _ _ f0 _ w a0 b0 c0 _ _ _ (part_h _ _ _ (snc_x0 hx) w) (part_h _ _ _ (snc_x0 hy) w) q1 _
   (eqFields_cons 9999 _ _ f1 _ w a1 b1 c1 _ _ _ (part_h _ _ _ (snc_x1 hx) w) (part_h _ _ _ (snc_x1 hy) w) q2 _
   (eqFields_cons 9999 _ _ f2 _ w a2 b2 c2 _ _ _ (part_int _ _ _ (p x _ _ (snc_pos hx)) w) (part_int _ _ _ (p y _ _ (snc_pos hy)) w) (qi _ _) true rfl))).trans ?_
  congr 1
  rw [Bool.eq_iff_iff]
  cases x
  cases y
  simp only [Bool.and_eq_true, beq_iff_eq, Sn.mk.injEq]
  simp
theorem eqlSn {x y : Sn} (hx : x.ok) (hy : y.ok) (p q : Operand) (w : World) : (do eqGuard .eql 58 p q (.agg (snc x).toArray) (.agg (snc y).toArray); binOp .eql 58 (.agg (snc x).toArray) (.agg (snc y).toArray) : Sem Value).run Tryd.prog w = .ok (.bool (x == y)) w := by
 rw [Sem.run_bind, show (eqGuard .eql 58 p q (.agg (snc x).toArray) (.agg (snc y).toArray)).run Tryd.prog w = .ok () w by go_simp, Result.andThen_ok, run_eql_struct, eqInSn 58 (by kernel_rfl) (by kernel_rfl) (by kernel_rfl) hx hy]
 rfl
theorem eqlHg (x y : List UInt8) (hx : x.length = 32) (hy : y.length = 32) (p q : Operand) (w : World) : (do eqGuard .eql 30 p q (.agg (hcs x)) (.agg (hcs y)); binOp .eql 30 (.agg (hcs x)) (.agg (hcs y)) : Sem Value).run Tryd.prog w = .ok (.bool (x == y)) w := by
 rw [Sem.run_bind, show (eqGuard .eql 30 p q (.agg (hcs x)) (.agg (hcs y))).run Tryd.prog w = .ok () w by go_simp]
 have := eqlP x y hx hy w
 simpa using this
theorem neqHg (x y : List UInt8) (hx : x.length = 32) (hy : y.length = 32) (p q : Operand) (w : World) : (do eqGuard .neq 30 p q (.agg (hcs x)) (.agg (hcs y)); binOp .neq 30 (.agg (hcs x)) (.agg (hcs y)) : Sem Value).run Tryd.prog w = .ok (.bool (!(x == y))) w := by
 rw [Sem.run_bind, show (eqGuard .neq 30 p q (.agg (hcs x)) (.agg (hcs y))).run Tryd.prog w = .ok () w by go_simp]
 have := neqP x y hx hy w
 simpa using this
end Go.Proofs.YtobjgebojhjhnaaDoor
namespace Go.Proofs.YtobjgebojhjhnaaDoor
open Go.RowKit
attribute [local go_sem high] slB_lh slB_l slB_h nilB_eq
theorem infoSn : (Tryd.prog.info? 58).map (fun i => (i.size, i.bytes)) = some (65, 72) := by kernel_rfl
theorem zeroSn : (Tryd.prog.info? 58).map (fun i => (i.zero.map (·.cells.size))) = some (some 65) := by kernel_rfl
theorem infoBs : (Tryd.prog.info? 33).map (fun i => (i.size, i.bytes)) = some (1, 24) := by kernel_rfl
theorem zeroBs : (Tryd.prog.info? 33).map (fun i => (i.zero.map (·.cells.size))) = some (some 1) := by kernel_rfl
theorem bsc_one (l : List (List UInt8 × Sl)) : ∀ u ∈ bsc l, u.oneCell' = true := by
 intro u hu
 obtain ⟨e, _, rfl⟩ := List.mem_map.1 hu
 rfl
theorem nilSn_eq (A : Option Addr) (n c n' c' : Nat) (w : World) : (binOp .eql 40 (.slice A n c) (.slice none n' c')).run Tryd.prog w = .ok (.bool A.isNone) w :=
 Lib.run_eql_slice_nil w _ _ A n c n' c' Tryd.underlying40
theorem nilBs_eq (A : Option Addr) (n c n' c' : Nat) (w : World) : (binOp .eql 22 (.slice A n c) (.slice none n' c')).run Tryd.prog w = .ok (.bool A.isNone) w :=
 Lib.run_eql_slice_nil w _ _ A n c n' c' Tryd.underlying22
attribute [local go_sem high] nilSn_eq nilBs_eq
set_option maxRecDepth 10000 in
set_option maxHeartbeats 1000000 in
theorem CloneS (l : List Sn) (A : Option Addr) (n c : Nat) (w : World) (hr : RdSns w A l) (hn : l.length = n) (hm : n ≤ 100000) :
  Calls Tryd.prog 35 #[.slice A n c] w fun e w' => ∃ v, e = .returned v ∧ w'.ownsRow w.heap.size 58 65 v n (snl l) ∧ Below w.heap.size w w' := by
 cases A with
 | none =>
  have hb : l = [] := by
   by_cases h : 0 < l.length
   ·obtain ⟨_, _, h⟩ := hr.adr h
    cases h
   ·exact List.eq_nil_of_length_eq_zero (by omega)
  subst hb
  subst hn
  clear hm hr
  have hnn : (none : Option Addr).isNone = true := rfl
  go_enter Tryd.func35, Tryd.ntmps35
  go_wp2
  go_ret
  exact ⟨_, rfl, World.ownsRow_nil _ _ _ _, Below.refl _ _⟩
 | some a =>
  have hmade : (w.alloc (.cells #[] 58)).ownsRow w.heap.size 58 65 (.slice (some ⟨w.heap.size, 0, none⟩) 0 0) 0 (snl []) := World.ownsRow_made w #[] 0 (Nat.le_refl _) (by simp [maxLen]) rfl
  have hb1 := (Below.refl w.heap.size w).alloc (Nat.le_refl _) (.cells #[] 58)
  have hr1 := (hr.below hb1).1
  have hnn : (some a : Option Addr).isNone = false := rfl
  have hl : (snl l).length = n * 65 := by rw [snl_length hr.2, hn]
  have Hl := Lib.hid hl
  have one := Lib.hid (snl_one l)
  clear hn hl
  go_enter Tryd.func35, Tryd.ntmps35
  go_wp2_with (at_builtin; refine wpList_appE Tryd.underlying40 infoSn zeroSn (by decide) hmade (by simp) (snl l) n c hr1 Hl.out one.out (by omega) (by omega) rfl (.tmp 5) (.tmp 6) rfl rfl rfl ?_; intro v1 w1 o1 g1 _)
  go_ret
  rw [show snl [] ++ snl l = snl l from rfl, Nat.zero_add] at o1
  exact ⟨_, rfl, o1, own_app hb1 hmade g1 (by simp)⟩
set_option maxRecDepth 10000 in
set_option maxHeartbeats 1000000 in
theorem CloneB (l : List (List UInt8 × Sl)) (A : Option Addr) (n c : Nat) (w : World) (hr : RdBss w A l) (hn : l.length = n) (hm : n ≤ 100000) :
  Calls Tryd.prog 45 #[.slice A n c] w fun e w' => ∃ v, e = .returned v ∧ w'.ownsRow w.heap.size 33 1 v n (bsc l) ∧ Below w.heap.size w w' := by
 cases A with
 | none =>
  have hb : l = [] := by
   by_cases h : 0 < l.length
   ·obtain ⟨_, _, h⟩ := hr.adr h
    cases h
   ·exact List.eq_nil_of_length_eq_zero (by omega)
  subst hb
  subst hn
  clear hm hr
  have hnn : (none : Option Addr).isNone = true := rfl
  go_enter Tryd.func45, Tryd.ntmps45
  go_wp2
  go_ret
  exact ⟨_, rfl, World.ownsRow_nil _ _ _ _, Below.refl _ _⟩
 | some a =>
  have hmade : (w.alloc (.cells #[] 33)).ownsRow w.heap.size 33 1 (.slice (some ⟨w.heap.size, 0, none⟩) 0 0) 0 (bsc []) := World.ownsRow_made w #[] 0 (Nat.le_refl _) (by simp [maxLen]) rfl
  have hb1 := (Below.refl w.heap.size w).alloc (Nat.le_refl _) (.cells #[] 33)
  have hr1 := (hr.below hb1).1
  have hnn : (some a : Option Addr).isNone = false := rfl
  have hl : (bsc l).length = n * 1 := by rw [bsc, List.length_map, hn, Nat.mul_one]
  have Hl := Lib.hid hl
  have one := Lib.hid (bsc_one l)
  clear hn hl
  go_enter Tryd.func45, Tryd.ntmps45
  go_wp2_with (at_builtin; refine wpList_appE Tryd.underlying22 infoBs zeroBs (by decide) hmade (by simp) (bsc l) n c hr1 Hl.out one.out (by omega) (by omega) rfl (.tmp 5) (.tmp 6) rfl rfl rfl ?_; intro v1 w1 o1 g1 _)
  go_ret
  rw [show bsc [] ++ bsc l = bsc l from rfl, Nat.zero_add] at o1
  exact ⟨_, rfl, o1, own_app hb1 hmade g1 (by simp)⟩
set_option maxRecDepth 10000 in
set_option maxHeartbeats 2000000 in
theorem IdxH (l : List (List UInt8)) (x : (List UInt8)) (xok : x.length = 32) (A : Option Addr) (n c : Nat) (w : World) (hr : RdHs w A l) (hn : l.length = n) (hm : n ≤ 1000000) :
  Calls Tryd.prog 85 #[.slice A n c, .agg (List.map bv x).toArray] w fun e w' => e = .returned (.int .i64 (ixOf l x)) ∧ Below w.heap.size w w' := by
 obtain ⟨R, hR⟩ : ∃ R, R = ixOf l x := ⟨_, rfl⟩
 rw [← hR]
 obtain ⟨W, hW⟩ : ∃ W, W = w.alloc (.cells (List.map bv x).toArray 30) := ⟨_, rfl⟩
 obtain ⟨H, hH⟩ : ∃ H, H = w.heap.size := ⟨_, rfl⟩
 have aW : Av W H 30 (List.map bv x) := by rw [hW, hH]; exact heap_alloc_new _ _
 have bW : Below w.heap.size w W := by rw [hW]; exact (Below.refl _ _).alloc (Nat.le_refl _) _
 have x32 := Lib.hid (show (x.map bv).length = 32 by rw [List.length_map, xok])
 replace hR := Lib.hid hR
 replace hW := Lib.hid hW
 replace hH := Lib.hid hH
 replace hn := Lib.hid hn
 go_enter Tryd.func85, Tryd.ntmps85
 go_upto_region 1 with fail
 rw [← hW.out, ← hH.out]
 go_wp2
 go_loopw [8] (fun i wr => ∃ j : Nat, j ≤ n ∧ i = .int .i64 (j : Int) ∧ Below w.heap.size w wr ∧ Av wr H 30 (List.map bv x) ∧ Hid (∀ i, i < j → ∀ z, l[i]? = some z → (x == z) = false)) (fun i _ => n - (intOf i).toNat)
 case atStart => exact ⟨0, by omega, rfl, bW, aW, Lib.hid (fun i hi => by omega)⟩
 case round =>
  clear aW
  obtain ⟨j, hj, rfl, bw, aB, hf⟩ := hrel
  by_cases hlt : j < n
  ·have t2 : decide ((j : Int) < (n : Int)) = true := by simp; omega
   obtain ⟨y, hy⟩ : ∃ y, l[j]? = some y := ⟨_, List.getElem?_eq_getElem (by rw [hn.out]; exact hlt)⟩
   obtain ⟨b, off, rfl⟩ := hr.adr (by rw [hn.out]; omega)
   have G1 : Hid (∀ w', Below w.heap.size w w' → w'.rangeAt b (off + j * 32) (List.map bv y)) := Lib.hid fun w' h => (hr.below h).nth j y hy
   have yok : y.length = 32 := hr.2 y (List.mem_of_getElem? hy)
   have y32 := Lib.hid (show (y.map bv).length = 32 by rw [List.length_map, yok])
   obtain ⟨q, hq⟩ : ∃ q, q = (x == y) := ⟨_, rfl⟩
   have N1 := eqlHg x y xok yok
   rw [← hq] at N1
   replace N1 := Lib.hid N1
   have m0 : 0 ≤ (j : Int) := by omega
   have m1 : (j : Int) < (n : Int) := by omega
   replace hy := Lib.hid hy
   go_upto_region 4 with fail
   refine wp_region_rel [] Ext (by kernel_rfl) (by kernel_rfl) (by kernel_rfl) Ext.refl Ext.trans (by intro p hp; cases hp) ?_
   refine ZP (c := .agg (List.map bv x).toArray) (fun w hw => exec_loadAv (aB.below hw.drew) _ _ rfl rfl _ 32 x32.out Tryd.underlying30 rfl (by kernel_rfl)) ?_
   refine ZM ?_
   refine ZM ?_
   refine ZP (c := .pointer (some ⟨b, off + j * 32, none⟩)) (fun w _ => by go_simp; first | done | rfl) ?_
   refine ZP (c := .agg (List.map bv y).toArray) (fun w hw => exec_load_mid _ _ rfl b (off + j * 32) rfl (List.map bv y) _ (G1.out _ (bw.trans (hw.drew.mono bw.size))) Tryd.underlying30 rfl (by rw [y32.out]; kernel_rfl)) ?_
   refine relBin Ext.refl rfl rfl rfl rfl _ _ _ _ _ rfl (by conv => lhs; whnf) (by conv => lhs; whnf) (c := .bool q) (fun w => N1.out _ _ w) (by simp only [Zs]; rfl) ?_
   refine relEnd fun w2 hw2 => fill_end ?_
   have b2 := bw.trans (hw2.drew.mono bw.size)
   have a2 := aB.below hw2.drew
   cases q
   ·have hf2 : Hid (∀ i, i < j + 1 → ∀ z, l[i]? = some z → (x == z) = false) := Lib.hid (fun i hi z hz => by
     by_cases e : i = j
     ·subst e
      rw [hy.out] at hz
      rw [← Option.some.inj hz]
      exact hq.symm
     ·exact hf.out i (by omega) z hz)
    go_wp2
    refine ⟨⟨j + 1, by omega, by go_num, b2, a2, hf2⟩, ?_⟩
    simp [intOf]
    omega
   ·go_wp2
    go_ret
    have eR : R = (j : Int) := by rw [hR.out, ix_yes hy.out hq.symm hf.out]
    exact ⟨by rw [eR]; rfl, b2⟩
  ·obtain rfl : j = n := by omega
   have t2 : decide ((j : Int) < (j : Int)) = false := by simp
   go_wp2
   go_ret
   have eR : R = -1 := by rw [hR.out, ix_no (by rw [hn.out]; exact hf.out)]
   exact ⟨by rw [eR]; rfl, bw⟩
set_option maxRecDepth 10000 in
set_option maxHeartbeats 2000000 in
theorem IdxS (l : List Sn) (x : Sn) (xok : x.ok) (A : Option Addr) (n c : Nat) (w : World) (hr : RdSns w A l) (hn : l.length = n) (hm : n ≤ 1000000) :
  Calls Tryd.prog 62 #[.slice A n c, .agg (snc x).toArray] w fun e w' => e = .returned (.int .i64 (ixOf l x)) ∧ Below w.heap.size w w' := by
 obtain ⟨R, hR⟩ : ∃ R, R = ixOf l x := ⟨_, rfl⟩
 rw [← hR]
 obtain ⟨W, hW⟩ : ∃ W, W = w.alloc (.cells (snc x).toArray 58) := ⟨_, rfl⟩
 obtain ⟨H, hH⟩ : ∃ H, H = w.heap.size := ⟨_, rfl⟩
 have aW : Av W H 58 (snc x) := by rw [hW, hH]; exact heap_alloc_new _ _
 have bW : Below w.heap.size w W := by rw [hW]; exact (Below.refl _ _).alloc (Nat.le_refl _) _
 have x65 := Lib.hid (snc_length (s := x) xok)
 replace hR := Lib.hid hR
 replace hW := Lib.hid hW
 replace hH := Lib.hid hH
 replace hn := Lib.hid hn
 go_enter Tryd.func62, Tryd.ntmps62
 go_upto_region 1 with fail
 rw [← hW.out, ← hH.out]
 go_wp2
 go_loopw [8] (fun i wr => ∃ j : Nat, j ≤ n ∧ i = .int .i64 (j : Int) ∧ Below w.heap.size w wr ∧ Av wr H 58 (snc x) ∧ Hid (∀ i, i < j → ∀ z, l[i]? = some z → (x == z) = false)) (fun i _ => n - (intOf i).toNat)
 case atStart => exact ⟨0, by omega, rfl, bW, aW, Lib.hid (fun i hi => by omega)⟩
 case round =>
  clear aW
  obtain ⟨j, hj, rfl, bw, aB, hf⟩ := hrel
  by_cases hlt : j < n
  ·have t2 : decide ((j : Int) < (n : Int)) = true := by simp; omega
   obtain ⟨y, hy⟩ : ∃ y, l[j]? = some y := ⟨_, List.getElem?_eq_getElem (by rw [hn.out]; exact hlt)⟩
   obtain ⟨b, off, rfl⟩ := hr.adr (by rw [hn.out]; omega)
   have G1 : Hid (∀ w', Below w.heap.size w w' → w'.rangeAt b (off + j * 65) (snc y)) := Lib.hid fun w' h => ((hr.below h).nth j y hy).1
   have yok : y.ok := hr.2 y (List.mem_of_getElem? hy)
   have y65 := Lib.hid (snc_length (s := y) yok)
   obtain ⟨q, hq⟩ : ∃ q, q = (x == y) := ⟨_, rfl⟩
   have N1 := eqlSn xok yok
   rw [← hq] at N1
   replace N1 := Lib.hid N1
   have m0 : 0 ≤ (j : Int) := by omega
   have m1 : (j : Int) < (n : Int) := by omega
   replace hy := Lib.hid hy
   go_upto_region 4 with fail
   refine wp_region_rel [] Ext (by kernel_rfl) (by kernel_rfl) (by kernel_rfl) Ext.refl Ext.trans (by intro p hp; cases hp) ?_
   refine ZP (c := .agg (snc x).toArray) (fun w hw => exec_loadAv (aB.below hw.drew) _ _ rfl rfl _ 65 x65.out Tryd.underlying58 rfl (by kernel_rfl)) ?_
   refine ZM ?_
   refine ZM ?_
   refine ZP (c := .pointer (some ⟨b, off + j * 65, none⟩)) (fun w _ => by go_simp; first | done | rfl) ?_
   refine ZP (c := .agg (snc y).toArray) (fun w hw => exec_load_mid _ _ rfl b (off + j * 65) rfl (snc y) _ (G1.out _ (bw.trans (hw.drew.mono bw.size))) Tryd.underlying58 rfl (by rw [y65.out]; kernel_rfl)) ?_
   refine relBin Ext.refl rfl rfl rfl rfl _ _ _ _ _ rfl (by conv => lhs; whnf) (by conv => lhs; whnf) (c := .bool q) (fun w => N1.out _ _ w) (by simp only [Zs]; rfl) ?_
   refine relEnd fun w2 hw2 => fill_end ?_
   have b2 := bw.trans (hw2.drew.mono bw.size)
   have a2 := aB.below hw2.drew
   cases q
   ·have hf2 : Hid (∀ i, i < j + 1 → ∀ z, l[i]? = some z → (x == z) = false) := Lib.hid (fun i hi z hz => by
     by_cases e : i = j
     ·subst e
      rw [hy.out] at hz
      rw [← Option.some.inj hz]
      exact hq.symm
     ·exact hf.out i (by omega) z hz)
    go_wp2
    refine ⟨⟨j + 1, by omega, by go_num, b2, a2, hf2⟩, ?_⟩
    simp [intOf]
    omega
   ·go_wp2
    go_ret
    have eR : R = (j : Int) := by rw [hR.out, ix_yes hy.out hq.symm hf.out]
    exact ⟨by rw [eR]; rfl, b2⟩
  ·obtain rfl : j = n := by omega
   have t2 : decide ((j : Int) < (j : Int)) = false := by simp
   go_wp2
   go_ret
   have eR : R = -1 := by rw [hR.out, ix_no (by rw [hn.out]; exact hf.out)]
   exact ⟨by rw [eR]; rfl, bw⟩
set_option maxHeartbeats 1000000 in
theorem ConH (l : List (List UInt8)) (x : (List UInt8)) (xok : x.length = 32) (A : Option Addr) (n c : Nat) (w : World) (hr : RdHs w A l) (hn : l.length = n) (hm : n ≤ 1000000) :
  Calls Tryd.prog 61 #[.slice A n c, .agg (List.map bv x).toArray] w fun e w' => e = .returned (.bool (l.contains x)) ∧ Below w.heap.size w w' := by
 have HI := fun w' h => IdxH l x xok A n c w' h hn hm
 rw [← ix_ge]
 obtain ⟨R, hR⟩ : ∃ R, R = ixOf l x := ⟨_, rfl⟩
 rw [← hR] at HI ⊢
 obtain ⟨W, hW⟩ : ∃ W, W = w.alloc (.cells (List.map bv x).toArray 30) := ⟨_, rfl⟩
 obtain ⟨H, hH⟩ : ∃ H, H = w.heap.size := ⟨_, rfl⟩
 have aW : Av W H 30 (List.map bv x) := by rw [hW, hH]; exact heap_alloc_new _ _
 have bW : Below w.heap.size w W := by rw [hW]; exact (Below.refl _ _).alloc (Nat.le_refl _) _
 have x32 := Lib.hid (show (x.map bv).length = 32 by rw [List.length_map, xok])
 have hrW := hr.below bW
 replace HI := Lib.hid HI
 replace hR := Lib.hid hR
 replace hW := Lib.hid hW
 replace hH := Lib.hid hH
 go_enter Tryd.func61, Tryd.ntmps61
 go_upto_region 1 with fail
 rw [← hW.out, ← hH.out]
 go_wp2_with (first
  | ((with_reducible refine wpList_loadF 30 aW ?_ _ 32 x32.out Tryd.underlying30 ?_ ?_ ?_); rfl; rfl; kernel_rfl)
  | (go_at_call 85; refine (HI.out W hrW).mono ?_; rintro e w2 ⟨rfl, b2⟩))
 go_ret
 refine ⟨?_, bW.trans (b2.mono bW.size)⟩
 first | rfl | simp
set_option maxHeartbeats 1000000 in
theorem ConS (l : List Sn) (x : Sn) (xok : x.ok) (A : Option Addr) (n c : Nat) (w : World) (hr : RdSns w A l) (hn : l.length = n) (hm : n ≤ 1000000) :
  Calls Tryd.prog 36 #[.slice A n c, .agg (snc x).toArray] w fun e w' => e = .returned (.bool (l.contains x)) ∧ Below w.heap.size w w' := by
 have HI := fun w' h => IdxS l x xok A n c w' h hn hm
 rw [← ix_ge]
 obtain ⟨R, hR⟩ : ∃ R, R = ixOf l x := ⟨_, rfl⟩
 rw [← hR] at HI ⊢
 obtain ⟨W, hW⟩ : ∃ W, W = w.alloc (.cells (snc x).toArray 58) := ⟨_, rfl⟩
 obtain ⟨H, hH⟩ : ∃ H, H = w.heap.size := ⟨_, rfl⟩
 have aW : Av W H 58 (snc x) := by rw [hW, hH]; exact heap_alloc_new _ _
 have bW : Below w.heap.size w W := by rw [hW]; exact (Below.refl _ _).alloc (Nat.le_refl _) _
 have x65 := Lib.hid (snc_length (s := x) xok)
 have hrW := hr.below bW
 replace HI := Lib.hid HI
 replace hR := Lib.hid hR
 replace hW := Lib.hid hW
 replace hH := Lib.hid hH
 go_enter Tryd.func36, Tryd.ntmps36
 go_upto_region 1 with fail
 rw [← hW.out, ← hH.out]
 go_wp2_with (first
  | ((with_reducible refine wpList_loadF 58 aW ?_ _ 65 x65.out Tryd.underlying58 ?_ ?_ ?_); rfl; rfl; kernel_rfl)
  | (go_at_call 62; refine (HI.out W hrW).mono ?_; rintro e w2 ⟨rfl, b2⟩))
 go_ret
 refine ⟨?_, bW.trans (b2.mono bW.size)⟩
 first | rfl | simp
theorem WAmong (A : Option Addr) (n c : Nat) (w : World) :
  Calls Tryd.prog 34 #[.slice A n c] w fun e w' => e = .returned (.func (.func 60) #[] #[.pointer (some ⟨w.heap.size, 0, none⟩)]) ∧ w' = w.alloc (.cells #[.slice A n c] 23) := by
 go_enter Tryd.func34, Tryd.ntmps34
 go_wp2
 go_ret
 exact ⟨rfl, rfl⟩
set_option maxRecDepth 10000 in
set_option maxHeartbeats 1000000 in
theorem WAmong1 (l : List (List UInt8)) (x : List UInt8) (xok : x.length = 32) (A : Option Addr) (n c G : Nat) (w : World) (hr : RdHs w A l) (hn : l.length = n) (hm : n ≤ 1000000) (aG : Av w G 23 [.slice A n c]) :
  Calls Tryd.prog 60 #[.agg (x.map bv).toArray, .pointer (some ⟨G, 0, none⟩)] w fun e w' => e = .returned (.bool (l.contains x)) ∧ Below w.heap.size w w' := by
 have HI := fun w' h => ConH l x xok A n c w' h hn hm
 obtain ⟨R, hR⟩ : ∃ R, R = l.contains x := ⟨_, rfl⟩
 rw [← hR] at HI ⊢
 obtain ⟨W, hW⟩ : ∃ W, W = w.alloc (.cells (x.map bv).toArray 30) := ⟨_, rfl⟩
 obtain ⟨H, hH⟩ : ∃ H, H = w.heap.size := ⟨_, rfl⟩
 have aW : Av W H 30 (x.map bv) := by rw [hW, hH]; exact heap_alloc_new _ _
 have bW : Below w.heap.size w W := by rw [hW]; exact (Below.refl _ _).alloc (Nat.le_refl _) _
 have x32 := Lib.hid (show (x.map bv).length = 32 by rw [List.length_map, xok])
 have hrW := hr.below bW
 have gW := (aG.below bW).cell 0 _ rfl
 replace HI := Lib.hid HI
 replace hR := Lib.hid hR
 replace hW := Lib.hid hW
 replace hH := Lib.hid hH
 clear aG
 go_enter Tryd.func60, Tryd.ntmps60
 go_upto_region 1 with fail
 rw [← hW.out, ← hH.out]
 go_wp2_with (first
  | ((with_reducible refine wpList_loadF 30 aW ?_ _ 32 x32.out Tryd.underlying30 ?_ ?_ ?_); rfl; rfl; kernel_rfl)
  | (go_at_call 61; refine (HI.out W hrW).mono ?_; rintro e w2 ⟨rfl, b2⟩))
 go_ret
 exact ⟨rfl, bW.trans (b2.mono bW.size)⟩
set_option maxRecDepth 10000 in
set_option maxHeartbeats 1000000 in
theorem WScript1 (y s : List UInt8) (A : Option Addr) (n c : Nat) (B : Option Addr) (m d G : Nat) (w : World) (ry : Rd w A (y.map bv)) (hy : y.length = n) (rs : Rd w B (s.map bv)) (hs : s.length = m) (aG : Av w G 33 [.slice B m d]) :
  Calls Tryd.prog 43 #[.slice A n c, .pointer (some ⟨G, 0, none⟩)] w fun e w' => e = .returned (.bool (y == s)) ∧ w = w' := by
 have HI := TEqual y s A B n m c d hy hs w ry rs _ rfl
 obtain ⟨R, hR⟩ : ∃ R, R = (y == s) := ⟨_, rfl⟩
 rw [← hR] at HI ⊢
 have gW := aG.cell 0 _ rfl
 replace HI := Lib.hid HI
 replace hR := Lib.hid hR
 clear aG
 go_enter Tryd.func43, Tryd.ntmps43
 go_wp2_with (go_at_call 44; refine (HI.out).mono ?_; rintro e w2 ⟨rfl, rfl⟩)
 go_ret
 exact ⟨rfl, rfl⟩
def ixB (l : List (List UInt8)) (s : List UInt8) : Int := match l.findIdx? (fun y => y == s) with
 | some i => (i : Int)
 | none => -1
theorem ixB_yes {l : List (List UInt8)} {s y : List UInt8} {j : Nat} (hy : l[j]? = some y) (h : (y == s) = true) (hl : ∀ i, i < j → ∀ z, l[i]? = some z → (z == s) = false) : ixB l s = (j : Int) := by
 unfold ixB
 obtain ⟨h1, h2⟩ := List.getElem?_eq_some_iff.1 hy
 rw [List.findIdx?_eq_some_iff_getElem.2 ⟨h1, by rw [h2]; exact h, fun i hi => by
  rw [hl i hi _ (List.getElem?_eq_getElem (by omega))]; simp⟩]
theorem ixB_no {l : List (List UInt8)} {s : List UInt8} (hl : ∀ i, i < l.length → ∀ z, l[i]? = some z → (z == s) = false) : ixB l s = -1 := by
 unfold ixB
 rw [List.findIdx?_eq_none_iff.2 fun z hz => by
  obtain ⟨i, hi, rfl⟩ := List.getElem_of_mem hz
  exact hl i hi _ (List.getElem?_eq_getElem hi)]
theorem ixB_ge (l : List (List UInt8)) (s : List UInt8) : decide ((0 : Int) ≤ ixB l s) = l.contains s := by
 unfold ixB
 rw [Bool.eq_iff_iff, List.contains_iff_mem, decide_eq_true_eq]
 cases h : l.findIdx? (fun y => y == s) with
 | none =>
  rw [List.findIdx?_eq_none_iff] at h
  simp only
  constructor
  ·intro h2; omega
  ·intro h2
   have := h s h2
   simp at this
 | some i =>
  simp only
  obtain ⟨h1, h2, _⟩ := List.findIdx?_eq_some_iff_getElem.1 h
  have e : l[i] = s := by simpa using h2
  constructor
  ·intro _; rw [← e]; exact List.getElem_mem h1
  ·intro _; omega
set_option maxRecDepth 10000 in
set_option maxHeartbeats 2000000 in
theorem IdxB (l : List (List UInt8 × Sl)) (s : List UInt8) (A : Option Addr) (n c : Nat) (B : Option Addr) (m d G : Nat) (w : World) (hr : RdBss w A l) (hn : l.length = n) (hm : n ≤ 1000000) (rs : Rd w B (s.map bv)) (hs : s.length = m) (aG : Av w G 33 [.slice B m d]) :
  Calls Tryd.prog 71 #[.slice A n c, .func (.func 43) #[] #[.pointer (some ⟨G, 0, none⟩)]] w fun e w' => e = .returned (.int .i64 (ixB (l.map (·.1)) s)) ∧ w' = w := by
 obtain ⟨R, hR⟩ : ∃ R, R = ixB (l.map (·.1)) s := ⟨_, rfl⟩
 rw [← hR]
 replace hR := Lib.hid hR
 replace hn := Lib.hid hn
 go_enter Tryd.func71, Tryd.ntmps71
 go_wp2
 go_loopw [8] (fun i wr => ∃ j : Nat, j ≤ n ∧ i = .int .i64 (j : Int) ∧ wr = w ∧ Hid (∀ i, i < j → ∀ z, (l.map (·.1))[i]? = some z → (z == s) = false)) (fun i _ => n - (intOf i).toNat)
 case atStart => exact ⟨0, by omega, rfl, rfl, Lib.hid (fun i hi => by omega)⟩
 case round =>
  obtain ⟨j, hj, rfl, rfl, hf⟩ := hrel
  by_cases hlt : j < n
  ·have t2 : decide ((j : Int) < (n : Int)) = true := by simp; omega
   obtain ⟨y, hy⟩ : ∃ y, l[j]? = some y := ⟨_, List.getElem?_eq_getElem (by rw [hn.out]; exact hlt)⟩
   obtain ⟨b, off, rfl⟩ := hr.adr (by rw [hn.out]; omega)
   obtain ⟨g1, g2, g3⟩ := hr.nth j y hy
   obtain ⟨ys, ya, yc⟩ := y
   dsimp only at g2 g3
   obtain ⟨yl, hyl⟩ : ∃ k, k = ys.length := ⟨_, rfl⟩
   have HC := WScript1 ys s ya yl yc B m d G wr g2 hyl.symm rs hs aG
   have g1' : wr.cell? ⟨b, off + j, none⟩ = some (.slice ya yl yc) := by rw [hyl]; exact g1
   obtain ⟨q, hq⟩ : ∃ q, q = (ys == s) := ⟨_, rfl⟩
   rw [← hq] at HC
   replace hq := Lib.hid hq
   have hy2 : (l.map (·.1))[j]? = some ys := by rw [List.getElem?_map, hy]; rfl
   have m0 : 0 ≤ (j : Int) := by omega
   have m1 : (j : Int) < (n : Int) := by omega
   replace HC := Lib.hid HC
   replace hy := Lib.hid hy
   replace hy2 := Lib.hid hy2
   replace hyl := Lib.hid hyl
   clear g1 g2 g3
   cases q
   ·have hf2 : Hid (∀ i, i < j + 1 → ∀ z, (l.map (·.1))[i]? = some z → (z == s) = false) := Lib.hid (fun i hi z hz => by
     by_cases e : i = j
     ·subst e
      rw [hy2.out] at hz
      rw [← Option.some.inj hz]
      exact hq.out.symm
     ·exact hf.out i (by omega) z hz)
    go_wp2_with (go_at_call 43; refine (HC.out).mono ?_; rintro e w2 ⟨rfl, rfl⟩)
    refine ⟨⟨j + 1, by omega, by go_num, trivial, hf2⟩, ?_⟩
    simp [intOf]
    omega
   ·go_wp2_with (go_at_call 43; refine (HC.out).mono ?_; rintro e w2 ⟨rfl, rfl⟩)
    go_ret
    have eR : R = (j : Int) := by rw [hR.out, ixB_yes hy2.out hq.out.symm hf.out]
    exact ⟨by rw [eR]; rfl, rfl⟩
  ·obtain rfl : j = n := by omega
   have t2 : decide ((j : Int) < (j : Int)) = false := by simp
   go_wp2
   go_ret
   have eR : R = -1 := by rw [hR.out, ixB_no (by rw [List.length_map, hn.out]; exact hf.out)]
   exact ⟨by rw [eR]; rfl, rfl⟩
set_option maxRecDepth 10000 in
set_option maxHeartbeats 2000000 in
theorem ConB (l : List (List UInt8 × Sl)) (s : List UInt8) (A : Option Addr) (n c : Nat) (B : Option Addr) (m d G : Nat) (w : World) (hr : RdBss w A l) (hn : l.length = n) (hm : n ≤ 1000000) (rs : Rd w B (s.map bv)) (hs : s.length = m) (aG : Av w G 33 [.slice B m d]) :
  Calls Tryd.prog 42 #[.slice A n c, .func (.func 43) #[] #[.pointer (some ⟨G, 0, none⟩)]] w fun e w' => e = .returned (.bool ((l.map (·.1)).contains s)) ∧ w' = w := by
 have HI := IdxB l s A n c B m d G w hr hn hm rs hs aG
 rw [← ixB_ge]
 obtain ⟨R, hR⟩ : ∃ R, R = ixB (l.map (·.1)) s := ⟨_, rfl⟩
 rw [← hR] at HI ⊢
 replace HI := Lib.hid HI
 replace hR := Lib.hid hR
 go_enter Tryd.func42, Tryd.ntmps42
 go_wp2_with (go_at_call 71; refine (HI.out).mono ?_; rintro e w2 ⟨rfl, rfl⟩)
 go_ret
 refine ⟨?_, rfl⟩
 first | rfl | simp
end Go.Proofs.YtobjgebojhjhnaaDoor
