/- Str; ShE: put together for the claim. -/
import Derived.Test.YtjgdmpbaikhflaaDoorRul
import Derived.Test.YtjgdmpbaikhflaaDoorPr4
import Derived.Test.YtjgdmpbaikhflaaDoorShWq
import Derived.Test.YtjgdmpbaikhflaaDoorRelT
import Derived.Deep.Cut
/- The rules for a region's conversions of bytes to a string. -/
namespace Go.Proofs.YtjgdmpbaikhflaaDoor
open Go.RowKit
section
variable {ops : Array Oper} {Q : Exit → Act → World → Prop} {w0 : World} {L : List (Nat × VP)} {i : Nat} {o : Oper} {rest : List Oper} {l l' : List Value} {d : List Deferred}

theorem exec_conv {ρ : Operand → Value} (x : Operand) (ho : o.op = .convert 37 9 x) {A : Option Addr} {n c : Nat} (hx : ρ x = .slice A n c) {w : World} {bs : List UInt8} (hr : Rd w A (bs.map bv)) (hn : bs.length = n) :
    (execOp ρ o).run Tryd.prog w = .ok (.value (.string ⟨bs.toArray⟩)) w := by
  unfold execOp
  rw [ho]
  dsimp only
  rw [hx, Sem.run_bind, conv_str hr hn]
  rfl
/-- 'string(b)', b known -/
theorem relStr (hL : L.lookup i = none) (hD : (L.all fun p => !lookOn ops o p.1) = true) (hw : okG ops o l = some true) {t : Nat} (ht : o.dst = some t) (x : Operand) (ho : o.op = .convert 37 9 x)
    {A : Option Addr} {n c : Nat} (hx : evL l x = .slice A n c) (bs : List UInt8) (hn : bs.length = n) (hr : ∀ w, Ext w0 w → Rd w A (bs.map bv))
    (hl : l.set t (.string ⟨bs.toArray⟩) = l') (k : relWalk Tryd.prog ops Ext Q w0 L (i + 1) rest ⟨l'.toArray, d⟩) : relWalk Tryd.prog ops Ext Q w0 L i (o :: rest) ⟨l.toArray, d⟩ :=
  relPure Ext.refl hL hD hw ht (fun w hw' => exec_conv x ho (by rw [eval_evL]; exact hx) (hr w hw') hn) hl k
/-- the word of a slice of just these bytes -/
def SlW (bs : List UInt8) : VP := fun v w => ∃ A c, v = .slice A bs.length c ∧ Rd w A (bs.map bv)
theorem SlW.mono {bs : List UInt8} {v : Value} {w w' : World} (h : Ext w w') : SlW bs v w → SlW bs v w' := by
  rintro ⟨A, c, rfl, hr⟩
  exact ⟨A, c, rfl, hr.below h⟩
theorem SlW.own {bs : List UInt8} {v : Value} {w : World} {base : Nat} (h : OwnB w base v bs) : SlW bs v w := by
  obtain ⟨A, c, rfl, _, _⟩ := h.form
  exact ⟨A, c, rfl, h.rd⟩
theorem add_str (a b : List UInt8) (h : a.length + b.length ≤ 9223372036854775807) (x y : Operand) (w : World) :
    ((do eqGuard .add 9 x y (.string ⟨a.toArray⟩) (.string ⟨b.toArray⟩); binOp .add 9 (.string ⟨a.toArray⟩) (.string ⟨b.toArray⟩) : Sem Value)).run Tryd.prog w = .ok (.string ⟨(a ++ b).toArray⟩) w := by
  go_simp
  rw [if_neg (by omega), ByteArray.mk_append_mk]
theorem relCat (hL : L.lookup i = none) (hD : (L.all fun p => !lookOn ops o p.1) = true) (hw : okG ops o l = some true) {t : Nat} (ht : o.dst = some t) (x y : Operand) (ty' : TypeId) (ho : o.op = .binOp .add 9 x y ty')
    (a b : List UInt8) (hx : evL l x = .string ⟨a.toArray⟩) (hy : evL l y = .string ⟨b.toArray⟩) (hle : a.length + b.length ≤ 9223372036854775807)
    (hl : l.set t (.string ⟨(a ++ b).toArray⟩) = l') (k : relWalk Tryd.prog ops Ext Q w0 L (i + 1) rest ⟨l'.toArray, d⟩) : relWalk Tryd.prog ops Ext Q w0 L i (o :: rest) ⟨l.toArray, d⟩ :=
  relBin Ext.refl hL hD hw ht .add 9 ty' x y ho hx hy (fun w => add_str a b hle x y w) hl k
/-- 'string(f(..))': the value looked at has a word -/
theorem str_word {w : World} {bs : List UInt8} {v : Value} (hv : SlW bs v w) {ρ : Operand → Value} (x : Operand) (ho : o.op = .convert 37 9 x) (hx : ρ x = v) :
    relRes Tryd.prog Ext w (fun u _ => u = .string ⟨bs.toArray⟩) ((execOp ρ o).run Tryd.prog w) := by
  obtain ⟨A, c, rfl, hr⟩ := hv
  rw [exec_conv x ho hx hr rfl]
  exact ⟨Ext.refl w, rfl⟩
end
end Go.Proofs.YtjgdmpbaikhflaaDoor
/- End, Sum and Double of SHA-256. -/
namespace Go.Proofs.YtjgdmpbaikhflaaDoor
open Go.RowKit

/-- Write: the bytes stand behind no rest, or fill it up -/
theorem Write (h : List W32) (hh : h.length = 8) (rs : List UInt8) (A : Option Addr) (n c : Nat) (hn : rs.length = n) (hn6 : n < 64) (hnc : n ≤ c) (N : Int) (h0 : 0 ≤ N) (h1 : N < 18446744073709551616) (h64 : N % 64 = n)
    (bs : List UInt8) (B : Option Addr) (m cb : Nat) (hm : bs.length = m) (hc : m ≤ cb) (hnm : n = 0 ∨ 64 ≤ n + m) (w : World) (hq : Rd w A (rs.map bv)) (hr : Rd w B (bs.map bv)) (ht : Tabs w) :
    Calls Tryd.prog 46 #[.agg (stc h A n c N).toArray, .slice B m cb] w fun e w' =>
      ∃ A' c', e = .returned (.agg (stc (shFold ((n + m) / 64) h (rs ++ bs)) A' ((n + m) % 64) c' (IntKind.u64.wrap (N + IntKind.u64.wrap (m : Int)))).toArray) ∧ (n + m) % 64 ≤ c' ∧ Rd w' A' (((rs ++ bs).drop (64 * ((n + m) / 64))).map bv) ∧ Below w.heap.size w w' := by
  by_cases hz : n = 0
  · subst hz
    have : rs = [] := List.length_eq_zero_iff.1 hn
    subst this
    simp only [Nat.zero_add, List.nil_append]
    exact Write0 h hh A c N h0 h1 (by simpa using h64) bs B m cb hm hc w hr ht
  · exact Write1 h hh rs A n c hn (by omega) hn6 hnc N h0 h1 h64 bs B m cb hm hc (by omega) w hq hr ht

/-- a byte of a word -/
def w8 (x : W32) (s : Nat) : UInt8 := UInt8.ofNat (x.toNat / 2 ^ s)
theorem w8_eq (x : W32) (s : Nat) : wn x / 2 ^ s % 256 = ((w8 x s).toNat : Int) := by
  have e : (w8 x s).toNat = x.toNat / 2 ^ s % 256 := UInt8.toNat_ofNat'
  rw [e, wn_def]
  simp
/-- the first k words written as bytes -/
def ofill (h : List W32) : Nat → List UInt8
  | 0 => List.replicate 32 0
  | k + 1 => ((((ofill h k).set (4 * k) (w8 (h.getD k 0) 24)).set (4 * k + 1) (w8 (h.getD k 0) 16)).set (4 * k + 2) (w8 (h.getD k 0) 8)).set (4 * k + 3) (w8 (h.getD k 0) 0)
theorem ofill_length (h : List W32) (k : Nat) : (ofill h k).length = 32 := by
  induction k with
  | zero => simp [ofill]
  | succ k ih => simp [ofill, ih]
def outB (h : List W32) : List UInt8 := ofill h 8
theorem outB_length (h : List W32) : (outB h).length = 32 := ofill_length h 8

theorem index_word (l : List W32) (hl : l.length = 8) (k : Nat) (hk : k < 8) (w : World) :
    (Instr.index 73 (.agg (l.map wc).toArray) (.int .i64 (k : Int))).run Tryd.prog w = .ok (wc (l.getD k 0)) w := by
  obtain ⟨v0, v1, v2, v3, v4, v5, v6, v7, rfl⟩ := len8 hl
  rcases (show k = 0 ∨ k = 1 ∨ k = 2 ∨ k = 3 ∨ k = 4 ∨ k = 5 ∨ k = 6 ∨ k = 7 by omega) with rfl | rfl | rfl | rfl | rfl | rfl | rfl | rfl <;> kernel_rfl
theorem Av.get {w : World} {g : Nat} {t : TypeId} {l : List UInt8} (h : Av w g t (l.map bv)) (i : Nat) (hi : i < l.length) : w.cell? ⟨g, i, none⟩ = some (bv (l.getD i 0)) :=
  h.cell i _ (by rw [List.getElem?_map, List.getElem?_eq_getElem hi, List.getD_eq_getElem?_getD, List.getElem?_eq_getElem hi]; rfl)
/-- a hash's cells -/
abbrev hcs (b : List UInt8) : Array Value := (b.map bv).toArray

theorem zeros_32 : #[Value.int IntKind.u8 0, Value.int IntKind.u8 0, Value.int IntKind.u8 0, Value.int IntKind.u8 0, Value.int IntKind.u8 0, Value.int IntKind.u8 0, Value.int IntKind.u8 0, Value.int IntKind.u8 0, Value.int IntKind.u8 0, Value.int IntKind.u8 0, Value.int IntKind.u8 0, Value.int IntKind.u8 0, Value.int IntKind.u8 0, Value.int IntKind.u8 0, Value.int IntKind.u8 0, Value.int IntKind.u8 0, Value.int IntKind.u8 0, Value.int IntKind.u8 0, Value.int IntKind.u8 0, Value.int IntKind.u8 0, Value.int IntKind.u8 0, Value.int IntKind.u8 0, Value.int IntKind.u8 0, Value.int IntKind.u8 0, Value.int IntKind.u8 0, Value.int IntKind.u8 0, Value.int IntKind.u8 0, Value.int IntKind.u8 0, Value.int IntKind.u8 0, Value.int IntKind.u8 0, Value.int IntKind.u8 0, Value.int IntKind.u8 0] = ((List.replicate 32 (0 : UInt8)).map bv).toArray := rfl
/-- a slice that is full -/
def FullW (bs : List UInt8) : VP := fun v w => ∃ A, v = .slice A bs.length bs.length ∧ Rd w A (bs.map bv)
theorem FullW.mono {bs : List UInt8} {v : Value} {w w' : World} (h : Ext w w') : FullW bs v w → FullW bs v w' := by
  rintro ⟨A, rfl, hr⟩
  exact ⟨A, rfl, hr.below h⟩
set_option maxRecDepth 10000 in
set_option maxHeartbeats 4000000 in
theorem End (h : List W32) (hh : h.length = 8) (rs : List UInt8) (A : Option Addr) (n c : Nat) (hn : rs.length = n) (hn6 : n < 64) (hnc : n ≤ c) (N : Nat) (h1 : N < 18446744073709551616) (h64 : N % 64 = n)
    (w : World) (hq : Rd w A (rs.map bv)) (ht : Tabs w) :
    Calls Tryd.prog 45 #[.agg (stc h A n c N).toArray] w fun e w' =>
      e = .returned (.agg (hcs (outB (shFold ((n + (padZ N + 9)) / 64) h (rs ++ padOf N))))) ∧ Below w.heap.size w w' := by
  have hs := Sane h hh A n c N (by omega) (by omega) (by omega) true (by simp; omega)
  have hpl : (padOf N).length = padZ N + 9 := pfill_length N 8
  have hpz : (n + (padZ N + 9)) % 64 = 0 ∧ 64 ≤ n + (padZ N + 9) := by rw [padZ]; split <;> omega
  obtain ⟨h', hh'⟩ : ∃ l, l = shFold ((n + (padZ N + 9)) / 64) h (rs ++ padOf N) := ⟨_, rfl⟩
  have hl' : h'.length = 8 := by rw [hh', shFold_length _ _ _ hh]
  rw [← hh']
  replace hh' := Lib.hid hh'
  replace hl' := Lib.hid hl'
  obtain ⟨ss, hss⟩ : ∃ ss : List Value, ss = stc h A n c N := ⟨_, rfl⟩
  have c9 : ss[9]? = some (.int .u64 (N : Int)) := by rw [hss, stc, List.getElem?_append_right (by simp [hh])]; simp [hh]
  rw [← hss] at hs ⊢
  have hsl : ss.length = 10 := by rw [hss]; simp [stc, hh]
  replace hss := Lib.hid hss
  replace hsl := Lib.hid hsl
  replace hh := Lib.hid hh
  replace hpl := Lib.hid hpl
  replace hn := Lib.hid hn
  replace h64 := Lib.hid h64
  replace c9 := Lib.hid c9
  obtain ⟨zs, hzs⟩ : ∃ zs : List UInt8, zs = List.replicate 32 0 := ⟨_, rfl⟩
  have hz := zeros_32
  rw [← hzs] at hz
  have hzl : (zs.map bv).length = 32 := by rw [hzs]; simp
  replace hzs := Lib.hid hzs
  replace hzl := Lib.hid hzl
  go_enter Tryd.func45, Tryd.ntmps45
  have hb0 : Below w.heap.size w ((w.alloc (.cells ss.toArray 75)).alloc (.cells (zs.map bv).toArray 24)) := ((Below.refl _ _).alloc (Nat.le_refl _) _).alloc (by simp) _
  have ha1 : Av ((w.alloc (.cells ss.toArray 75)).alloc (.cells (zs.map bv).toArray 24)) w.heap.size 75 ss := heap_alloc2_old _ _ _
  have ha2 : Av ((w.alloc (.cells ss.toArray 75)).alloc (.cells (zs.map bv).toArray 24)) (w.heap.size + 1) 24 (zs.map bv) := heap_alloc2_new _ _ _
  go_wp2_with (refine wpList_loadAv ha1 rfl _ _ rfl rfl _ 10 hsl.out Tryd.underlying75 rfl (by kernel_rfl) ?_)
  generalize (w.alloc (.cells ss.toArray 75)).alloc (.cells (zs.map bv).toArray 24) = w0 at *
  refine (hs w0).mono ?_
  rintro e w1 ⟨rfl, b1⟩
  replace ha1 := ha1.below b1
  replace ha2 := ha2.below b1
  replace b1 := hb0.trans (b1.mono hb0.size)
  clear hb0 hs
  go_wp2_with fail
  have HP := Lib.hid (Pad N h1)
  refine wp_region_relT 4 [(3, FullW (padOf N))] Ext (by kernel_rfl) (by kernel_rfl) (by kernel_rfl) (by kernel_rfl) (by kernel_rfl) Ext.refl Ext.trans (by intro p hp v w w' hR; simp only [List.mem_singleton] at hp; subst hp; exact FullW.mono hR) ?_
  refine relPure Ext.refl rfl rfl rfl rfl (c := .agg ss.toArray) (fun w hw => exec_loadAv (ha1.below hw.drew) _ _ rfl rfl _ 10 hsl.out Tryd.underlying75 rfl (by kernel_rfl)) (by simp only [List.set_cons_succ, List.set_cons_zero]; rfl) ?_
  refine relPure Ext.refl rfl rfl rfl rfl (fun w _ => by go_simp; first | done | rfl) (by simp only [List.set_cons_succ, List.set_cons_zero]; rfl) ?_
  refine relPure Ext.refl rfl rfl rfl rfl (c := .int .u64 (N : Int)) (fun w hw => by have := (ha1.below hw.drew).cell 9 _ c9.out; go_simp; first | done | rfl) (by simp only [List.set_cons_succ, List.set_cons_zero]; rfl) ?_
  refine relCall _ rfl rfl rfl 58 #[.int .u64 (N : Int)] (fun w => by go_simp) (fun w hw => (HP.out w).mono ?_) ?_
  · rintro e w' ⟨rfl, hr, hb⟩
    exact ⟨_, rfl, hb, _, by rw [hpl.out], hr⟩
  refine relEnd fun w2 hw2 => fill_take rfl rfl fun v hv => fill_end ?_
  simp only [List.set_cons_succ, List.set_cons_zero]
  obtain ⟨B, rfl, hrb⟩ := hv
  replace hw2 := hw2.drew
  replace ha1 := ha1.below hw2
  replace ha2 := ha2.below hw2
  have b2 := b1.trans (hw2.mono b1.size)
  have HW := Write h hh.out rs A n c hn.out hn6 hnc N (by omega) (by omega) (by have := h64.out; omega) (padOf N) B (padZ N + 9) (padZ N + 9) hpl.out (Nat.le_refl _) (.inr hpz.2) w2 (hq.below b2) hrb (ht.below b2)
  rw [hpz.1, ← hss.out] at HW
  have hdr : (rs ++ padOf N).drop (64 * ((n + (padZ N + 9)) / 64)) = [] := List.drop_of_length_le (by rw [List.length_append, hn.out, hpl.out]; omega)
  rw [hdr] at HW
  rw [← hh'.out] at HW
  obtain ⟨N2, hN2⟩ : ∃ x, x = IntKind.u64.wrap ((N : Int) + IntKind.u64.wrap ((padZ N + 9 : Nat) : Int)) := ⟨_, rfl⟩
  rw [← hN2] at HW
  rw [hpl.out]
  replace HW := Lib.hid HW
  clear hh' hN2 hdr
  simp only [List.drop_succ_cons, List.drop_zero]
  go_wp2_with fail
  refine HW.out.mono ?_
  rintro e w3 ⟨A3, c3, rfl, -, -, b3⟩
  clear HW
  replace ha1 := ha1.below b3
  replace ha2 := ha2.below b3
  replace b3 := b2.trans (b3.mono b2.size)
  clear b1 b2 hw2 hrb HP hpz
  go_wp2_with (first
    | refine wpList_load_mid rfl _ _ rfl _ _ rfl _ _ r4 Tryd.underlying73 rfl (by rw [List.length_map, hl'.out]; kernel_rfl) ?_
    | (refine wpList_storeAv b3 ha1 (Nat.le_refl _) rfl _ _ _ rfl rfl (stc h' A3 0 c3 N2) rfl 10 (by simp [stc, hl'.out]) (by kernel_rfl) (by rw [List.size_toArray]; exact hsl.out) (by simp [stc, Value.oneCell']) ?_
       intro w4 a4 b4 k4 z4
       replace z4 := Lib.hid z4
       have r4 : (w4.alloc (.cells (zs.map bv).toArray 24)).rangeAt w.heap.size 0 (h'.map wc) := Av.rangeAt (pre := []) (rest := [.slice A3 0 c3, .int .u64 N2]) (a4.alloc _) 0 rfl))
  have z5 : w.heap.size + 1 < w4.heap.size := by rw [z4.out]; exact ha2.lt
  replace ha2 := ha2.same (k4 (w.heap.size + 1) (by omega))
  have a5 : Av (w4.alloc (.cells (zs.map bv).toArray 24)) w4.heap.size 24 ((ofill h' 0).map bv) := by
    have := heap_alloc_new w4 (.cells (zs.map bv).toArray 24)
    rw [hzs.out] at this ⊢
    exact this
  have b5 := b4.alloc b4.size (.cells (zs.map bv).toArray 24)
  have a6 := ha2.alloc (.cells (zs.map bv).toArray 24)
  clear r4 k4 ha2 a4 ha1
  replace z5 := Lib.hid z5
  go_loopw [17] (fun i wr => ∃ k : Nat, k ≤ 8 ∧ i = .int .i64 k ∧ Below w.heap.size w wr ∧ Av wr w4.heap.size 24 ((ofill h' k).map bv) ∧ Av wr (w.heap.size + 1) 24 (zs.map bv)) (fun i _ => 8 - (intOf i).toNat)
  case atStart => exact ⟨0, by omega, rfl, b5, a5, a6⟩
  case round =>
    clear a5 a6 b5 b3
    obtain ⟨k, hk, rfl, hb, ha, hr0⟩ := hrel
    by_cases hk8 : k < 8
    · have hk1 : (k : Int) < 8 := by omega
      have hk0 : 0 ≤ (k : Int) := by omega
      have hx := index_word h' hl'.out k hk8
      generalize hgx : h'.getD k 0 = x at hx
      replace hgx := Lib.hid hgx
      have e24 : wn x / 16777216 % 256 = ((w8 x 24).toNat : Int) := by rw [show (16777216 : Int) = 2 ^ 24 by decide]; exact w8_eq x 24
      have e16 : wn x / 65536 % 256 = ((w8 x 16).toNat : Int) := by rw [show (65536 : Int) = 2 ^ 16 by decide]; exact w8_eq x 16
      have e8 : wn x / 256 % 256 = ((w8 x 8).toNat : Int) := by rw [show (256 : Int) = 2 ^ 8 by decide]; exact w8_eq x 8
      have e0 : wn x % 256 = ((w8 x 0).toNat : Int) := by have := w8_eq x 0; simpa using this
      have hp0 : 0 ≤ 4 * (k : Int) := by omega
      have hq0 : 4 * (k : Int) < 32 := by omega
      have hfz0 : wr.frozen? ⟨w4.heap.size, 4 * k, none⟩ = false := frozen_of_row _ _ _ _ _ ha
      have hcl0 := ha.get (4 * k) (by simp [ofill_length]; omega)
      go_upto_region 9 with fail
      replace hb := hb.setCell (p := ⟨w4.heap.size, 4 * k, none⟩) b4.size (bv (w8 x 24))
      replace ha := ha.set (4 * k) (bv (w8 x 24))
      rw [← List.map_set] at ha
      replace hr0 := hr0.other ⟨w4.heap.size, 4 * k, none⟩ (bv (w8 x 24)) (Nat.ne_of_lt z5.out)
      clear hp0 hq0 hfz0 hcl0
      generalize wr.setCell ⟨w4.heap.size, 4 * k, none⟩ (bv (w8 x 24)) = wr1 at *
      have hp1 : 0 ≤ 4 * (k : Int) + 1 := by omega
      have hq1 : 4 * (k : Int) + 1 < 32 := by omega
      have hfz1 : wr1.frozen? ⟨w4.heap.size, 4 * k + 1, none⟩ = false := frozen_of_row _ _ _ _ _ ha
      have hcl1 := ha.get (4 * k + 1) (by simp [ofill_length]; omega)
      go_upto_region 10 with fail
      replace hb := hb.setCell (p := ⟨w4.heap.size, 4 * k + 1, none⟩) b4.size (bv (w8 x 16))
      replace ha := ha.set (4 * k + 1) (bv (w8 x 16))
      rw [← List.map_set] at ha
      replace hr0 := hr0.other ⟨w4.heap.size, 4 * k + 1, none⟩ (bv (w8 x 16)) (Nat.ne_of_lt z5.out)
      clear hp1 hq1 hfz1 hcl1
      generalize wr1.setCell ⟨w4.heap.size, 4 * k + 1, none⟩ (bv (w8 x 16)) = wr2 at *
      have hp2 : 0 ≤ 4 * (k : Int) + 2 := by omega
      have hq2 : 4 * (k : Int) + 2 < 32 := by omega
      have hfz2 : wr2.frozen? ⟨w4.heap.size, 4 * k + 2, none⟩ = false := frozen_of_row _ _ _ _ _ ha
      have hcl2 := ha.get (4 * k + 2) (by simp [ofill_length]; omega)
      go_upto_region 11 with fail
      replace hb := hb.setCell (p := ⟨w4.heap.size, 4 * k + 2, none⟩) b4.size (bv (w8 x 8))
      replace ha := ha.set (4 * k + 2) (bv (w8 x 8))
      rw [← List.map_set] at ha
      replace hr0 := hr0.other ⟨w4.heap.size, 4 * k + 2, none⟩ (bv (w8 x 8)) (Nat.ne_of_lt z5.out)
      clear hp2 hq2 hfz2 hcl2
      generalize wr2.setCell ⟨w4.heap.size, 4 * k + 2, none⟩ (bv (w8 x 8)) = wr3 at *
      have hp3 : 0 ≤ 4 * (k : Int) + 3 := by omega
      have hq3 : 4 * (k : Int) + 3 < 32 := by omega
      have hfz3 : wr3.frozen? ⟨w4.heap.size, 4 * k + 3, none⟩ = false := frozen_of_row _ _ _ _ _ ha
      have hcl3 := ha.get (4 * k + 3) (by simp [ofill_length]; omega)
      go_wp2
      replace hb := hb.setCell (p := ⟨w4.heap.size, 4 * k + 3, none⟩) b4.size (bv (w8 x 0))
      replace ha := ha.set (4 * k + 3) (bv (w8 x 0))
      rw [← List.map_set] at ha
      replace hr0 := hr0.other ⟨w4.heap.size, 4 * k + 3, none⟩ (bv (w8 x 0)) (Nat.ne_of_lt z5.out)
      clear hp3 hq3 hfz3 hcl3
      refine ⟨⟨k + 1, by omega, rfl, hb, ?_, hr0⟩, ?_⟩
      · rw [ofill, hgx.out]; exact ha
      · simp [intOf]; omega
    · obtain rfl : k = 8 := by omega
      go_wp2_with (first
        | refine wpList_loadAv ha rfl _ _ rfl rfl _ 32 (by rw [List.length_map, ofill_length]) Tryd.underlying24 rfl (by kernel_rfl) ?_
        | (refine wpList_storeAv hb hr0 (by omega) rfl _ _ _ rfl rfl ((ofill h' 8).map bv) rfl 32 (by rw [List.length_map, ofill_length]) (by kernel_rfl) (by rw [List.size_toArray]; exact hzl.out) (by simp [Value.oneCell']) ?_
           intro w6 a6 b6 k6 z6))
      refine bodyPost_ret (results_cell_row rfl _ _ (w.heap.size + 1) _ _ (0, 0) _ rfl a6 Tryd.underlying24 rfl (by rw [List.size_toArray, List.length_map, ofill_length]; kernel_rfl)) rfl ⟨rfl, b6⟩
end Go.Proofs.YtjgdmpbaikhflaaDoor
