/-
  Proved: no other bytes are got as headers, or as a header, than those that are put of them (the law HeaderOnce answers true), for every input, the tables of SHA-256 tied to the program's text.
-/
import Derived.Test.YtjgdmpbaikhflaaDoorHdM
import Derived.Test.YtjgdmpbaikhflaaDoorEqh
import Derived.Test.YtjgdmpbaikhflaaDoorBld
import Derived.Test.YtjgdmpbaikhflaaDoorHdZ
import Derived.Test.YtjgdmpbaikhflaaDoorAw7
import Derived.Test.YtjgdmpbaikhflaaDoorEx
import Derived.Test.YtjgdmpbaikhflaaDoorApp
import Derived.WalkKit
import Derived.ProofKit
import Derived.OpenShut
import Derived.ChangeOld
import Derived.Deep.Slices
import Derived.Test.YtjgdmpbaikhflaaDoorHdL
import Derived.Test.YtjgdmpbaikhflaaDoorTie2
/- Headers compared. -/
namespace Go.Proofs.YtjgdmpbaikhflaaDoor
open Go.RowKit
theorem part_u32 (xs : Array Value) (off : Nat) (v : Value) (h : xs[off]? = some v) (w : World) : (part 22 xs off).run Tryd.prog w = .ok v w := by
  simp [part, isAgg, run_underlying Tryd.underlying22, h]
theorem sizeOf_h (w : World) : (sizeOf 24).run Tryd.prog w = .ok 32 w := by
  obtain ⟨i0, hi, hz⟩ := Option.map_eq_some_iff.1 (show (Tryd.prog.info? 24).map (·.size) = some 32 by kernel_rfl)
  simp [sizeOf, typeInfo, hi, hz]
theorem part_h (xs : Array Value) (off : Nat) (v : Array Value) (h : xs.extract off (off + 32) = v) (w : World) : (part 24 xs off).run Tryd.prog w = .ok (.agg v) w := by
  simp [part, isAgg, run_underlying Tryd.underlying24, h]
theorem hdc_x1 {h : Hd} (k : h.ok) : (hdc h).toArray.extract 1 33 = hcs h.prev := by
  rw [List.extract_toArray, hcs]
  congr 1
  rw [List.extract_eq_take_drop, show (hdc h).drop 1 = h.prev.map bv ++ (h.root.map bv ++ [.int .u32 (h.time : Int), .int .u32 (h.bits : Int), .int .u32 (h.nonce : Int)]) from rfl]
  rw [List.take_append_of_le_length (by simp [k.2.1]), List.take_of_length_le (by simp [k.2.1])]
theorem hdc_x2 {h : Hd} (k : h.ok) : (hdc h).toArray.extract 33 65 = hcs h.root := by
  rw [List.extract_toArray, hcs]
  congr 1
  rw [List.extract_eq_take_drop, show hdc h = ([.int .u32 (h.ver : Int)] ++ h.prev.map bv) ++ (h.root.map bv ++ [.int .u32 (h.time : Int), .int .u32 (h.bits : Int), .int .u32 (h.nonce : Int)]) by simp [hdc]]
  rw [List.drop_left' (by simp [k.2.1]), List.take_append_of_le_length (by simp [k.2.2.1]), List.take_of_length_le (by simp [k.2.2.1])]
theorem eqFields_cons {P : Program} (d : Nat) (xs ys : Array Value) (f : Field) (fs : List Field) (w : World) (hn : (f.name == "_") = false) {t o : Nat} (ht : f.type = t) (ho : f.offset = o) (a b : Value) (r : Bool) (ha : (part t xs o).run P w = .ok a w) (hb : (part t ys o).run P w = .ok b w)
    (hr : (Op.equalIn d t a b).run P w = .ok r w) (R : Bool) (hR : (Op.eqFields d xs ys fs).run P w = .ok R w) : (Op.eqFields d xs ys (f :: fs)).run P w = .ok (r && R) w := by
  subst ht ho
  rw [Op.eqFields, if_pos (by simpa using hn), Sem.run_bind, ha, Result.andThen_ok, Sem.run_bind, hb, Result.andThen_ok, Sem.run_bind, hr, Result.andThen_ok]
  cases r
  · simp
  · simpa using hR
set_option maxRecDepth 100000 in
theorem eqInHd {x y : Hd} (hx : x.ok) (hy : y.ok) (w : World) : (Op.equalIn 10000 26 (.agg (hdc x).toArray) (.agg (hdc y).toArray)).run Tryd.prog w = .ok (decide (x = y)) w := by
  obtain ⟨x0, x3, x4, x5⟩ := hdc_at hx
  obtain ⟨y0, y3, y4, y5⟩ := hdc_at hy
  have p : ∀ (z : Hd) (i : Nat) (v : Value), (hdc z)[i]? = some v → (hdc z).toArray[i]? = some v := fun z i v h => by simpa using h
  have q1 := run_equalIn_bytes w 9997 24 5 32 Tryd.underlying24 Tryd.underlying5 sizeOf_u8 x.prev y.prev hx.2.1 hy.2.1
  have q2 := run_equalIn_bytes w 9997 24 5 32 Tryd.underlying24 Tryd.underlying5 sizeOf_u8 x.root y.root hx.2.2.1 hy.2.2.1
  have qi := fun (a b : Nat) => run_equalIn_int (P := Tryd.prog) w 9998 22 .u32 .u32 (a : Int) (b : Int) Tryd.underlying22
  have e0 := run_equalIn_struct (P := Tryd.prog) w 9999 26 (hdc x).toArray (hdc y).toArray (by kernel_rfl) (by kernel_rfl)
  have hf : (Tryd.prog.fieldsOf 26).toList.map (fun f => ((f.name == "_"), f.type, f.offset)) = [(false, 22, 0), (false, 24, 1), (false, 24, 33), (false, 22, 65), (false, 22, 66), (false, 22, 67)] := by kernel_rfl
  generalize (Tryd.prog.fieldsOf 26).toList = fs at hf e0
  have hl : fs.length = 6 := by simpa using congrArg List.length hf
  have hfs : ∃ f0 f1 f2 f3 f4 f5, fs = [f0, f1, f2, f3, f4, f5] := by
    match fs, hl with
    | [a, b, c, d, e, f], _ => exact ⟨a, b, c, d, e, f, rfl⟩
  obtain ⟨f0, f1, f2, f3, f4, f5, rfl⟩ := hfs
  · clear hl
    simp only [List.map_cons, List.map_nil, List.cons.injEq, Prod.mk.injEq, and_true] at hf
    obtain ⟨⟨a0, b0, c0⟩, ⟨a1, b1, c1⟩, ⟨a2, b2, c2⟩, ⟨a3, b3, c3⟩, ⟨a4, b4, c4⟩, ⟨a5, b5, c5⟩⟩ := hf
    refine e0.trans ?_
    refine (eqFields_cons 9999 _ _ f0 _ w a0 b0 c0 _ _ _ (part_u32 _ _ _ (p x _ _ x0) w) (part_u32 _ _ _ (p y _ _ y0) w) (qi _ _) _
      (eqFields_cons 9999 _ _ f1 _ w a1 b1 c1 _ _ _ (part_h _ _ _ (hdc_x1 hx) w) (part_h _ _ _ (hdc_x1 hy) w) q1 _
      (eqFields_cons 9999 _ _ f2 _ w a2 b2 c2 _ _ _ (part_h _ _ _ (hdc_x2 hx) w) (part_h _ _ _ (hdc_x2 hy) w) q2 _
      (eqFields_cons 9999 _ _ f3 _ w a3 b3 c3 _ _ _ (part_u32 _ _ _ (p x _ _ x3) w) (part_u32 _ _ _ (p y _ _ y3) w) (qi _ _) _
      (eqFields_cons 9999 _ _ f4 _ w a4 b4 c4 _ _ _ (part_u32 _ _ _ (p x _ _ x4) w) (part_u32 _ _ _ (p y _ _ y4) w) (qi _ _) _
      (eqFields_cons 9999 _ _ f5 _ w a5 b5 c5 _ _ _ (part_u32 _ _ _ (p x _ _ x5) w) (part_u32 _ _ _ (p y _ _ y5) w) (qi _ _) true rfl)))))).trans ?_
    congr 1
    rw [Bool.eq_iff_iff]
    cases x
    cases y
    simp only [Bool.and_eq_true, beq_iff_eq, decide_eq_true_eq, Hd.mk.injEq, Int.natCast_inj]
    simp
theorem eqlHdg {x y : Hd} (hx : x.ok) (hy : y.ok) (p q : Operand) (w : World) : (do eqGuard .eql 26 p q (.agg (hdc x).toArray) (.agg (hdc y).toArray); binOp .eql 26 (.agg (hdc x).toArray) (.agg (hdc y).toArray) : Sem Value).run Tryd.prog w = .ok (.bool (decide (x = y))) w := by
  rw [Sem.run_bind, show (eqGuard .eql 26 p q (.agg (hdc x).toArray) (.agg (hdc y).toArray)).run Tryd.prog w = .ok () w by go_simp, Result.andThen_ok, run_eql_struct, eqInHd hx hy]
  rfl
theorem neqHdg {x y : Hd} (hx : x.ok) (hy : y.ok) (p q : Operand) (w : World) : (do eqGuard .neq 26 p q (.agg (hdc x).toArray) (.agg (hdc y).toArray); binOp .neq 26 (.agg (hdc x).toArray) (.agg (hdc y).toArray) : Sem Value).run Tryd.prog w = .ok (.bool (!decide (x = y))) w := by
  rw [Sem.run_bind, show (eqGuard .neq 26 p q (.agg (hdc x).toArray) (.agg (hdc y).toArray)).run Tryd.prog w = .ok () w by go_simp, Result.andThen_ok, run_neq_struct, eqInHd hx hy]
  rfl
end Go.Proofs.YtjgdmpbaikhflaaDoor
/- The law HeaderOnce: the walk. -/
namespace Go.Proofs.YtjgdmpbaikhflaaDoor
open Go.RowKit
attribute [local go_sem high] slB_lh slB_l slB_h
theorem wpList_convG {ops : Array Oper} {rest : List Oper} {a : Act} {w : World} {Q : Exit → Act → World → Prop} {d tp pos af gd} {x : Operand} {A : Option Addr} {bs : List UInt8} {n c : Nat}
    (hw : Region.wanted ⟨d, .convert 37 9 x, tp, pos, af, gd⟩ (yielded ops a.tmps) = true) (hx : a.eval x = .slice A n c) (hr : Rd w A (bs.map bv)) (hn : bs.length = n)
    (k : wpList Tryd.prog ops Q rest (a.put d (.string ⟨bs.toArray⟩)) w) : wpList Tryd.prog ops Q (⟨d, .convert 37 9 x, tp, pos, af, gd⟩ :: rest) a w :=
  wpList_execW hw (exec_conv x rfl hx hr hn) k
set_option maxRecDepth 10000 in
set_option maxHeartbeats 4000000 in
theorem honce_long (A : Option Addr) (n c : Nat) (hh : 3000 < n) (w : World) (ht : Tabs w) : Calls Tryd.prog 7 #[.slice A n c] w fun e w' => e = .returned (.bool true) ∧ Below w.heap.size w w' := by
  have t1 : decide ((3000 : Int) < (n : Int)) = true := by simp; omega
  have HA := Lib.hid (awake7 w ht)
  go_enter Tryd.func7, Tryd.ntmps7
  go_wp2_with (go_at_call 9; refine (HA.out).mono ?_; rintro e w1 ⟨rfl, b1⟩)
  go_ret
  exact ⟨rfl, b1⟩
set_option maxRecDepth 10000 in
set_option maxHeartbeats 8000000 in
theorem honce_0 (bs : List UInt8) (A : Option Addr) (n c : Nat) (hn : bs.length = n) (hc : n ≤ c) (hk : n = 80) (w : World) (ht : Tabs w) (hr : Rd w A (bs.map bv)) : Calls Tryd.prog 7 #[.slice A n c] w fun e w' => e = .returned (.bool true) ∧ Below w.heap.size w w' := by
  have t1 : decide ((3000 : Int) < (n : Int)) = false := by simp; omega
  have HA := Lib.hid (awake7 w ht)
  obtain ⟨l, E, hl⟩ : ∃ l E, hdGets bs = (l, E) := ⟨_, _, rfl⟩
  have HGA := fun w' r => HdGetAll bs A n c hn hc (by omega) w' r
  have hbad := hdGets_bad bs
  have hone := hdGets_once bs
  rw [hl] at HGA hbad hone
  dsimp only at HGA hbad hone
  have hll : l.length ≤ 2000 := by
    by_cases hE : E = 0
    · exact (hone hE).2.2
    · rw [hbad hE]; exact Nat.zero_le _
  have hg : hdGet bs = (hdOf bs, 0) := by unfold hdGet; rw [if_neg (by omega), if_neg (by omega)]
  have HG := fun w' r => HdGet bs A n c hn hc w' r
  rw [hg] at HG
  dsimp only at HG
  have xok : (hdOf bs).ok := hdOf_ok (by omega)
  have hxb := hdB_hdOf (b := bs) (by omega)
  have hz := zeros_68
  obtain ⟨zs, hzs⟩ : ∃ zs : List Value, zs = hdc zeroHd := ⟨_, rfl⟩
  have hzl : zs.length = 68 := by rw [hzs]; rfl
  rw [show hdc ⟨0, List.replicate 32 0, List.replicate 32 0, 0, 0, 0⟩ = zs from hzs.symm] at hz
  obtain ⟨x, hx⟩ : ∃ x, x = hdOf bs := ⟨_, rfl⟩
  rw [← hx] at HG xok hxb
  have x68 := Lib.hid (hdc_length xok)
  have xone := Lib.hid (List.all_eq_true.2 (hdc_one x))
  have HP := fun w' => HdPut x xok w'
  rw [hxb] at HP
  clear hzs
  replace HP := Lib.hid HP
  replace hxb := Lib.hid hxb
  replace hk := Lib.hid hk
  replace hx := Lib.hid hx
  replace hn := Lib.hid hn
  replace hg := Lib.hid hg
  replace hl := Lib.hid hl
  replace hzl := Lib.hid hzl
  replace hbad := Lib.hid hbad
  replace hone := Lib.hid hone
  replace HG := Lib.hid HG
  replace HGA := Lib.hid HGA
  go_enter Tryd.func7, Tryd.ntmps7
  go_upto_region 2 with (go_at_call 9; refine (HA.out).mono ?_; rintro e w1 ⟨rfl, b1⟩)
  have r1 := hr.below b1
  clear HA
  go_upto_region 5 with (go_at_call 18; refine (HGA.out w1 r1).mono ?_; rintro e w2 ⟨B, m, d, rfl, hm, hd, q2, b2⟩)
  have bw2 := b1.trans (b2.mono b1.size)
  have r2 := r1.below b2
  have HPA := fun w' r => HdPutAll l B m d hm (by omega) w' r
  replace HPA := Lib.hid HPA
  clear r1 b1 b2
  go_upto_region 6 with (go_at_call 17; refine (HPA.out w2 q2).mono ?_; rintro e w3 ⟨v3, rfl, o3, b3⟩; obtain ⟨A3, c3, rfl, hc3, hm3⟩ := o3.form)
  have bw3 := bw2.trans (b3.mono bw2.size)
  have r3 := r2.below b3
  have s3 := o3.rd
  clear r2 b3 bw2 HPA
  go_upto_region 7 with (first
    | (go_at_call 15; refine (HG.out w3 r3).mono ?_; rintro e w4 ⟨rfl, b4⟩)
    | ((with_reducible refine wpList_storeF 26 ((Below.refl w4.heap.size w4).alloc (Nat.le_refl _) _) (heap_alloc_new _ _) (Nat.le_refl _) (hdc x) ?_ ?_ 68 x68.out ?_ ?_ ?_ ?_); rfl; rfl; kernel_rfl; (rw [List.size_toArray]; exact hzl.out); exact xone.out; intro w5 ax b5 z5; clear z5; intro z5; replace z5 := Lib.hid z5))
  obtain ⟨G, hG⟩ : ∃ G, G = w4.heap.size := ⟨_, rfl⟩
  rw [← hG] at ax ⊢
  replace hG := Lib.hid hG
  have b45 := b4.trans (b5.mono b4.size)
  have bw5 := bw3.trans (b45.mono bw3.size)
  have r5 := r3.below b45
  have s5 := s3.below b45
  clear r3 s3 b4 b5 b45 bw3 o3
  refine wp_region_rel [(4, SlW bs)] Ext (by kernel_rfl) (by kernel_rfl) (by kernel_rfl) Ext.refl Ext.trans (by intro p hp v w w' hR; simp only [List.mem_singleton] at hp; subst hp; exact SlW.mono hR) ?_
  refine relMove Ext.refl rfl rfl rfl rfl _ (.inl rfl) (by conv => lhs; whnf) (by simp only [List.set_cons_succ, List.set_cons_zero]; rfl) ?_
  refine relPure Ext.refl rfl rfl rfl rfl (c := .bool true) (fun w _ => by go_simp; first | done | rfl) (by simp only [List.set_cons_succ, List.set_cons_zero]; rfl) ?_
  refine relMove Ext.refl rfl rfl rfl rfl _ (.inl rfl) (by conv => lhs; whnf) (by simp only [List.set_cons_succ, List.set_cons_zero]; rfl) ?_
  refine relPure Ext.refl rfl rfl rfl rfl (c := .agg (hdc x).toArray) (fun w hw => exec_loadAv (ax.below hw.drew) _ _ rfl rfl _ 68 x68.out Tryd.underlying26 rfl (by kernel_rfl)) (by simp only [List.set_cons_succ, List.set_cons_zero]; rfl) ?_
  refine relCall _ rfl rfl rfl 14 #[.agg (hdc x).toArray] (fun w => by go_simp) (fun w hw => (HP.out w).mono (by rintro e w' ⟨A', rfl, rr, hb⟩; exact ⟨_, rfl, hb, some A', 80, by rw [hn.out, hk.out], rr⟩)) ?_
  refine relOn (c := .string ⟨bs.toArray⟩) rfl rfl (fun w hw => fill_take rfl rfl fun v hv => fill_end (relOp_yes rfl (str_word hv _ rfl (by rw [eval_evL]; rfl)))) (by simp only [List.set_cons_succ, List.set_cons_zero]; rfl) ?_
  refine relMove Ext.refl rfl rfl rfl rfl _ (.inl rfl) (by conv => lhs; whnf) (by simp only [List.set_cons_succ, List.set_cons_zero]; rfl) ?_
  refine relStr rfl rfl rfl rfl _ rfl (by conv => lhs; whnf) bs hn.out (fun w hw => r5.below hw.drew) (by simp only [List.set_cons_succ, List.set_cons_zero]; rfl) ?_
  refine relBin Ext.refl rfl rfl rfl rfl _ _ _ _ _ rfl (by conv => lhs; whnf) (by conv => lhs; whnf) (c := .bool false) (fun w => by go_simp) (by simp only [List.set_cons_succ, List.set_cons_zero]; rfl) ?_
  refine relPick Ext.refl rfl rfl rfl rfl _ _ _ rfl rfl (by conv => lhs; whnf) (by simp only [List.set_cons_succ, List.set_cons_zero]; rfl) ?_
  refine relMove Ext.refl rfl rfl rfl rfl _ (.inl rfl) (by conv => lhs; whnf) (by simp only [List.set_cons_succ, List.set_cons_zero]; rfl) ?_
  refine relMove Ext.refl rfl rfl rfl rfl _ (.inl rfl) (by conv => lhs; whnf) (by simp only [List.set_cons_succ, List.set_cons_zero]; rfl) ?_
  refine relPure Ext.refl rfl rfl rfl rfl (c := .bool false) (fun w _ => by go_simp; first | done | rfl) (by simp only [List.set_cons_succ, List.set_cons_zero]; rfl) ?_
  refine relMove Ext.refl rfl rfl rfl rfl _ (.inl rfl) (by conv => lhs; whnf) (by simp only [List.set_cons_succ, List.set_cons_zero]; rfl) ?_
  refine relSkip rfl rfl rfl rfl (by simp only [List.set_cons_succ, List.set_cons_zero]; rfl) ?_
  refine relSkip rfl rfl rfl rfl (by simp only [List.set_cons_succ, List.set_cons_zero]; rfl) ?_
  refine relSkip rfl rfl rfl rfl (by simp only [List.set_cons_succ, List.set_cons_zero]; rfl) ?_
  refine relPick Ext.refl rfl rfl rfl rfl _ _ _ rfl rfl (by conv => lhs; whnf) (by simp only [List.set_cons_succ, List.set_cons_zero]; rfl) ?_
  refine relPick Ext.refl rfl rfl rfl rfl _ _ _ rfl rfl (by conv => lhs; whnf) (by simp only [List.set_cons_succ, List.set_cons_zero]; rfl) ?_
  refine relEnd fun w6 hw6 => fill_take rfl rfl fun v hv => fill_end ?_
  simp only [List.set_cons_succ, List.set_cons_zero]
  clear hv
  have b56 := hw6.drew
  have bw6 := bw5.trans (b56.mono bw5.size)
  have r6 := r5.below b56
  have s6 := s5.below b56
  clear r5 s5 ax b56
  by_cases hE : E = 0
  · subst hE
    rw [(hone.out rfl).2.1] at s6
    have hl3 := Lib.hid (congrArg List.length (hone.out rfl).2.1).symm
    go_wp2_with (first
      | ((with_reducible refine wpList_convG (n := (hdAll l).length) (c := c3) ?_ ?_ s6 hl3.out ?_); rfl; rfl)
      | ((with_reducible refine wpList_convG (n := n) (c := c) ?_ ?_ r6 hn.out ?_); rfl; rfl))
    go_ret
    exact ⟨rfl, bw6⟩
  · have hl0 := hbad.out hE
    obtain rfl : m = 0 := by rw [← hm, hl0]; rfl
    have e0 : ((E : Int) == 0) = false := by simp; omega
    have e1 : ((E : Int) != 0) = true := by simp; omega
    replace hE := Lib.hid hE
    replace hl0 := Lib.hid hl0
    replace hm := Lib.hid hm
    go_wp2
    go_ret
    exact ⟨rfl, bw6⟩
set_option maxRecDepth 10000 in
set_option maxHeartbeats 8000000 in
theorem honce_1 (bs : List UInt8) (A : Option Addr) (n c : Nat) (hn : bs.length = n) (hc : n ≤ c) (hh : n ≤ 3000) (hk : n < 80) (w : World) (ht : Tabs w) (hr : Rd w A (bs.map bv)) : Calls Tryd.prog 7 #[.slice A n c] w fun e w' => e = .returned (.bool true) ∧ Below w.heap.size w w' := by
  have t1 : decide ((3000 : Int) < (n : Int)) = false := by simp; omega
  have HA := Lib.hid (awake7 w ht)
  obtain ⟨l, E, hl⟩ : ∃ l E, hdGets bs = (l, E) := ⟨_, _, rfl⟩
  have HGA := fun w' r => HdGetAll bs A n c hn hc (by omega) w' r
  have hbad := hdGets_bad bs
  have hone := hdGets_once bs
  rw [hl] at HGA hbad hone
  dsimp only at HGA hbad hone
  have hll : l.length ≤ 2000 := by
    by_cases hE : E = 0
    · exact (hone hE).2.2
    · rw [hbad hE]; exact Nat.zero_le _
  have hg : hdGet bs = (zeroHd, 1) := by unfold hdGet; rw [if_pos (by omega)]
  have HG := fun w' r => HdGet bs A n c hn hc w' r
  rw [hg] at HG
  dsimp only at HG
  have xok : (zeroHd).ok := zeroHd_ok
  have hz := zeros_68
  obtain ⟨zs, hzs⟩ : ∃ zs : List Value, zs = hdc zeroHd := ⟨_, rfl⟩
  have hzl : zs.length = 68 := by rw [hzs]; rfl
  rw [show hdc ⟨0, List.replicate 32 0, List.replicate 32 0, 0, 0, 0⟩ = zs from hzs.symm] at hz
  obtain ⟨x, hx⟩ : ∃ x, x = zeroHd := ⟨_, rfl⟩
  rw [← hx] at HG xok hzs
  have x68 := Lib.hid (hdc_length xok)
  have xone := Lib.hid (List.all_eq_true.2 (hdc_one x))
  have NH : ∀ p q w, (do eqGuard .neq 26 p q (.agg (hdc x).toArray) (.agg zs.toArray); binOp .neq 26 (.agg (hdc x).toArray) (.agg zs.toArray) : Sem Value).run Tryd.prog w = .ok (.bool false) w := by
    intro p q w
    have := neqHdg xok xok p q w
    rw [decide_eq_true rfl, Bool.not_true] at this
    rw [hzs]
    exact this
  replace NH := Lib.hid NH
  replace hzs := Lib.hid hzs
  replace hk := Lib.hid hk
  replace hx := Lib.hid hx
  replace hn := Lib.hid hn
  replace hg := Lib.hid hg
  replace hl := Lib.hid hl
  replace hzl := Lib.hid hzl
  replace hbad := Lib.hid hbad
  replace hone := Lib.hid hone
  replace HG := Lib.hid HG
  replace HGA := Lib.hid HGA
  go_enter Tryd.func7, Tryd.ntmps7
  go_upto_region 2 with (go_at_call 9; refine (HA.out).mono ?_; rintro e w1 ⟨rfl, b1⟩)
  have r1 := hr.below b1
  clear HA
  go_upto_region 5 with (go_at_call 18; refine (HGA.out w1 r1).mono ?_; rintro e w2 ⟨B, m, d, rfl, hm, hd, q2, b2⟩)
  have bw2 := b1.trans (b2.mono b1.size)
  have r2 := r1.below b2
  have HPA := fun w' r => HdPutAll l B m d hm (by omega) w' r
  replace HPA := Lib.hid HPA
  clear r1 b1 b2
  go_upto_region 6 with (go_at_call 17; refine (HPA.out w2 q2).mono ?_; rintro e w3 ⟨v3, rfl, o3, b3⟩; obtain ⟨A3, c3, rfl, hc3, hm3⟩ := o3.form)
  have bw3 := bw2.trans (b3.mono bw2.size)
  have r3 := r2.below b3
  have s3 := o3.rd
  clear r2 b3 bw2 HPA
  go_upto_region 7 with (first
    | (go_at_call 15; refine (HG.out w3 r3).mono ?_; rintro e w4 ⟨rfl, b4⟩)
    | ((with_reducible refine wpList_storeF 26 ((Below.refl w4.heap.size w4).alloc (Nat.le_refl _) _) (heap_alloc_new _ _) (Nat.le_refl _) (hdc x) ?_ ?_ 68 x68.out ?_ ?_ ?_ ?_); rfl; rfl; kernel_rfl; (rw [List.size_toArray]; exact hzl.out); exact xone.out; intro w5 ax b5 z5; clear z5; intro z5; replace z5 := Lib.hid z5))
  obtain ⟨G, hG⟩ : ∃ G, G = w4.heap.size := ⟨_, rfl⟩
  rw [← hG] at ax ⊢
  replace hG := Lib.hid hG
  have b45 := b4.trans (b5.mono b4.size)
  have bw5 := bw3.trans (b45.mono bw3.size)
  have r5 := r3.below b45
  have s5 := s3.below b45
  clear r3 s3 b4 b5 b45 bw3 o3
  refine wp_region_rel [] Ext (by kernel_rfl) (by kernel_rfl) (by kernel_rfl) Ext.refl Ext.trans (by intro p hp; cases hp) ?_
  refine relMove Ext.refl rfl rfl rfl rfl _ (.inl rfl) (by conv => lhs; whnf) (by simp only [List.set_cons_succ, List.set_cons_zero]; rfl) ?_
  refine relPure Ext.refl rfl rfl rfl rfl (c := .bool false) (fun w _ => by go_simp; first | done | rfl) (by simp only [List.set_cons_succ, List.set_cons_zero]; rfl) ?_
  refine relMove Ext.refl rfl rfl rfl rfl _ (.inl rfl) (by conv => lhs; whnf) (by simp only [List.set_cons_succ, List.set_cons_zero]; rfl) ?_
  refine relSkip rfl rfl rfl rfl (by simp only [List.set_cons_succ, List.set_cons_zero]; rfl) ?_
  refine relSkip rfl rfl rfl rfl (by simp only [List.set_cons_succ, List.set_cons_zero]; rfl) ?_
  refine relSkip rfl rfl rfl rfl (by simp only [List.set_cons_succ, List.set_cons_zero]; rfl) ?_
  refine relSkip rfl rfl rfl rfl (by simp only [List.set_cons_succ, List.set_cons_zero]; rfl) ?_
  refine relSkip rfl rfl rfl rfl (by simp only [List.set_cons_succ, List.set_cons_zero]; rfl) ?_
  refine relSkip rfl rfl rfl rfl (by simp only [List.set_cons_succ, List.set_cons_zero]; rfl) ?_
  refine relPick Ext.refl rfl rfl rfl rfl _ _ _ rfl rfl (by conv => lhs; whnf) (by simp only [List.set_cons_succ, List.set_cons_zero]; rfl) ?_
  refine relMove Ext.refl rfl rfl rfl rfl _ (.inl rfl) (by conv => lhs; whnf) (by simp only [List.set_cons_succ, List.set_cons_zero]; rfl) ?_
  refine relMove Ext.refl rfl rfl rfl rfl _ (.inl rfl) (by conv => lhs; whnf) (by simp only [List.set_cons_succ, List.set_cons_zero]; rfl) ?_
  refine relPure Ext.refl rfl rfl rfl rfl (c := .bool true) (fun w _ => by go_simp; first | done | rfl) (by simp only [List.set_cons_succ, List.set_cons_zero]; rfl) ?_
  refine relMove Ext.refl rfl rfl rfl rfl _ (.inl rfl) (by conv => lhs; whnf) (by simp only [List.set_cons_succ, List.set_cons_zero]; rfl) ?_
  refine relPure Ext.refl rfl rfl rfl rfl (c := .agg (hdc x).toArray) (fun w hw => exec_loadAv (ax.below hw.drew) _ _ rfl rfl _ 68 x68.out Tryd.underlying26 rfl (by kernel_rfl)) (by simp only [List.set_cons_succ, List.set_cons_zero]; rfl) ?_
  refine relPure Ext.refl rfl rfl rfl rfl (c := .agg zs.toArray) (fun w _ => by go_simp; first | done | rfl) (by simp only [List.set_cons_succ, List.set_cons_zero]; rfl) ?_
  refine relBin Ext.refl rfl rfl rfl rfl _ _ _ _ _ rfl (by conv => lhs; whnf) (by conv => lhs; whnf) (c := .bool false) (fun w => NH.out _ _ w) (by simp only [List.set_cons_succ, List.set_cons_zero]; rfl) ?_
  refine relPick Ext.refl rfl rfl rfl rfl _ _ _ rfl rfl (by conv => lhs; whnf) (by simp only [List.set_cons_succ, List.set_cons_zero]; rfl) ?_
  refine relPick Ext.refl rfl rfl rfl rfl _ _ _ rfl rfl (by conv => lhs; whnf) (by simp only [List.set_cons_succ, List.set_cons_zero]; rfl) ?_
  refine relEnd fun w6 hw6 => fill_end ?_
  have b56 := hw6.drew
  have bw6 := bw5.trans (b56.mono bw5.size)
  have r6 := r5.below b56
  have s6 := s5.below b56
  clear r5 s5 ax b56
  by_cases hE : E = 0
  · subst hE
    rw [(hone.out rfl).2.1] at s6
    have hl3 := Lib.hid (congrArg List.length (hone.out rfl).2.1).symm
    go_wp2_with (first
      | ((with_reducible refine wpList_convG (n := (hdAll l).length) (c := c3) ?_ ?_ s6 hl3.out ?_); rfl; rfl)
      | ((with_reducible refine wpList_convG (n := n) (c := c) ?_ ?_ r6 hn.out ?_); rfl; rfl))
    go_ret
    exact ⟨rfl, bw6⟩
  · have hl0 := hbad.out hE
    obtain rfl : m = 0 := by rw [← hm, hl0]; rfl
    have e0 : ((E : Int) == 0) = false := by simp; omega
    have e1 : ((E : Int) != 0) = true := by simp; omega
    replace hE := Lib.hid hE
    replace hl0 := Lib.hid hl0
    replace hm := Lib.hid hm
    go_wp2
    go_ret
    exact ⟨rfl, bw6⟩
set_option maxRecDepth 10000 in
set_option maxHeartbeats 8000000 in
theorem honce_3 (bs : List UInt8) (A : Option Addr) (n c : Nat) (hn : bs.length = n) (hc : n ≤ c) (hh : n ≤ 3000) (hk : 80 < n) (w : World) (ht : Tabs w) (hr : Rd w A (bs.map bv)) : Calls Tryd.prog 7 #[.slice A n c] w fun e w' => e = .returned (.bool true) ∧ Below w.heap.size w w' := by
  have t1 : decide ((3000 : Int) < (n : Int)) = false := by simp; omega
  have HA := Lib.hid (awake7 w ht)
  obtain ⟨l, E, hl⟩ : ∃ l E, hdGets bs = (l, E) := ⟨_, _, rfl⟩
  have HGA := fun w' r => HdGetAll bs A n c hn hc (by omega) w' r
  have hbad := hdGets_bad bs
  have hone := hdGets_once bs
  rw [hl] at HGA hbad hone
  dsimp only at HGA hbad hone
  have hll : l.length ≤ 2000 := by
    by_cases hE : E = 0
    · exact (hone hE).2.2
    · rw [hbad hE]; exact Nat.zero_le _
  have hg : hdGet bs = (zeroHd, 3) := by unfold hdGet; rw [if_neg (by omega), if_pos (by omega)]
  have HG := fun w' r => HdGet bs A n c hn hc w' r
  rw [hg] at HG
  dsimp only at HG
  have xok : (zeroHd).ok := zeroHd_ok
  have hz := zeros_68
  obtain ⟨zs, hzs⟩ : ∃ zs : List Value, zs = hdc zeroHd := ⟨_, rfl⟩
  have hzl : zs.length = 68 := by rw [hzs]; rfl
  rw [show hdc ⟨0, List.replicate 32 0, List.replicate 32 0, 0, 0, 0⟩ = zs from hzs.symm] at hz
  obtain ⟨x, hx⟩ : ∃ x, x = zeroHd := ⟨_, rfl⟩
  rw [← hx] at HG xok hzs
  have x68 := Lib.hid (hdc_length xok)
  have xone := Lib.hid (List.all_eq_true.2 (hdc_one x))
  have NH : ∀ p q w, (do eqGuard .neq 26 p q (.agg (hdc x).toArray) (.agg zs.toArray); binOp .neq 26 (.agg (hdc x).toArray) (.agg zs.toArray) : Sem Value).run Tryd.prog w = .ok (.bool false) w := by
    intro p q w
    have := neqHdg xok xok p q w
    rw [decide_eq_true rfl, Bool.not_true] at this
    rw [hzs]
    exact this
  replace NH := Lib.hid NH
  replace hzs := Lib.hid hzs
  replace hk := Lib.hid hk
  replace hx := Lib.hid hx
  replace hn := Lib.hid hn
  replace hg := Lib.hid hg
  replace hl := Lib.hid hl
  replace hzl := Lib.hid hzl
  replace hbad := Lib.hid hbad
  replace hone := Lib.hid hone
  replace HG := Lib.hid HG
  replace HGA := Lib.hid HGA
  go_enter Tryd.func7, Tryd.ntmps7
  go_upto_region 2 with (go_at_call 9; refine (HA.out).mono ?_; rintro e w1 ⟨rfl, b1⟩)
  have r1 := hr.below b1
  clear HA
  go_upto_region 5 with (go_at_call 18; refine (HGA.out w1 r1).mono ?_; rintro e w2 ⟨B, m, d, rfl, hm, hd, q2, b2⟩)
  have bw2 := b1.trans (b2.mono b1.size)
  have r2 := r1.below b2
  have HPA := fun w' r => HdPutAll l B m d hm (by omega) w' r
  replace HPA := Lib.hid HPA
  clear r1 b1 b2
  go_upto_region 6 with (go_at_call 17; refine (HPA.out w2 q2).mono ?_; rintro e w3 ⟨v3, rfl, o3, b3⟩; obtain ⟨A3, c3, rfl, hc3, hm3⟩ := o3.form)
  have bw3 := bw2.trans (b3.mono bw2.size)
  have r3 := r2.below b3
  have s3 := o3.rd
  clear r2 b3 bw2 HPA
  go_upto_region 7 with (first
    | (go_at_call 15; refine (HG.out w3 r3).mono ?_; rintro e w4 ⟨rfl, b4⟩)
    | ((with_reducible refine wpList_storeF 26 ((Below.refl w4.heap.size w4).alloc (Nat.le_refl _) _) (heap_alloc_new _ _) (Nat.le_refl _) (hdc x) ?_ ?_ 68 x68.out ?_ ?_ ?_ ?_); rfl; rfl; kernel_rfl; (rw [List.size_toArray]; exact hzl.out); exact xone.out; intro w5 ax b5 z5; clear z5; intro z5; replace z5 := Lib.hid z5))
  obtain ⟨G, hG⟩ : ∃ G, G = w4.heap.size := ⟨_, rfl⟩
  rw [← hG] at ax ⊢
  replace hG := Lib.hid hG
  have b45 := b4.trans (b5.mono b4.size)
  have bw5 := bw3.trans (b45.mono bw3.size)
  have r5 := r3.below b45
  have s5 := s3.below b45
  clear r3 s3 b4 b5 b45 bw3 o3
  refine wp_region_rel [] Ext (by kernel_rfl) (by kernel_rfl) (by kernel_rfl) Ext.refl Ext.trans (by intro p hp; cases hp) ?_
  refine relMove Ext.refl rfl rfl rfl rfl _ (.inl rfl) (by conv => lhs; whnf) (by simp only [List.set_cons_succ, List.set_cons_zero]; rfl) ?_
  refine relPure Ext.refl rfl rfl rfl rfl (c := .bool false) (fun w _ => by go_simp; first | done | rfl) (by simp only [List.set_cons_succ, List.set_cons_zero]; rfl) ?_
  refine relMove Ext.refl rfl rfl rfl rfl _ (.inl rfl) (by conv => lhs; whnf) (by simp only [List.set_cons_succ, List.set_cons_zero]; rfl) ?_
  refine relSkip rfl rfl rfl rfl (by simp only [List.set_cons_succ, List.set_cons_zero]; rfl) ?_
  refine relSkip rfl rfl rfl rfl (by simp only [List.set_cons_succ, List.set_cons_zero]; rfl) ?_
  refine relSkip rfl rfl rfl rfl (by simp only [List.set_cons_succ, List.set_cons_zero]; rfl) ?_
  refine relSkip rfl rfl rfl rfl (by simp only [List.set_cons_succ, List.set_cons_zero]; rfl) ?_
  refine relSkip rfl rfl rfl rfl (by simp only [List.set_cons_succ, List.set_cons_zero]; rfl) ?_
  refine relSkip rfl rfl rfl rfl (by simp only [List.set_cons_succ, List.set_cons_zero]; rfl) ?_
  refine relPick Ext.refl rfl rfl rfl rfl _ _ _ rfl rfl (by conv => lhs; whnf) (by simp only [List.set_cons_succ, List.set_cons_zero]; rfl) ?_
  refine relMove Ext.refl rfl rfl rfl rfl _ (.inl rfl) (by conv => lhs; whnf) (by simp only [List.set_cons_succ, List.set_cons_zero]; rfl) ?_
  refine relMove Ext.refl rfl rfl rfl rfl _ (.inl rfl) (by conv => lhs; whnf) (by simp only [List.set_cons_succ, List.set_cons_zero]; rfl) ?_
  refine relPure Ext.refl rfl rfl rfl rfl (c := .bool true) (fun w _ => by go_simp; first | done | rfl) (by simp only [List.set_cons_succ, List.set_cons_zero]; rfl) ?_
  refine relMove Ext.refl rfl rfl rfl rfl _ (.inl rfl) (by conv => lhs; whnf) (by simp only [List.set_cons_succ, List.set_cons_zero]; rfl) ?_
  refine relPure Ext.refl rfl rfl rfl rfl (c := .agg (hdc x).toArray) (fun w hw => exec_loadAv (ax.below hw.drew) _ _ rfl rfl _ 68 x68.out Tryd.underlying26 rfl (by kernel_rfl)) (by simp only [List.set_cons_succ, List.set_cons_zero]; rfl) ?_
  refine relPure Ext.refl rfl rfl rfl rfl (c := .agg zs.toArray) (fun w _ => by go_simp; first | done | rfl) (by simp only [List.set_cons_succ, List.set_cons_zero]; rfl) ?_
  refine relBin Ext.refl rfl rfl rfl rfl _ _ _ _ _ rfl (by conv => lhs; whnf) (by conv => lhs; whnf) (c := .bool false) (fun w => NH.out _ _ w) (by simp only [List.set_cons_succ, List.set_cons_zero]; rfl) ?_
  refine relPick Ext.refl rfl rfl rfl rfl _ _ _ rfl rfl (by conv => lhs; whnf) (by simp only [List.set_cons_succ, List.set_cons_zero]; rfl) ?_
  refine relPick Ext.refl rfl rfl rfl rfl _ _ _ rfl rfl (by conv => lhs; whnf) (by simp only [List.set_cons_succ, List.set_cons_zero]; rfl) ?_
  refine relEnd fun w6 hw6 => fill_end ?_
  have b56 := hw6.drew
  have bw6 := bw5.trans (b56.mono bw5.size)
  have r6 := r5.below b56
  have s6 := s5.below b56
  clear r5 s5 ax b56
  by_cases hE : E = 0
  · subst hE
    rw [(hone.out rfl).2.1] at s6
    have hl3 := Lib.hid (congrArg List.length (hone.out rfl).2.1).symm
    go_wp2_with (first
      | ((with_reducible refine wpList_convG (n := (hdAll l).length) (c := c3) ?_ ?_ s6 hl3.out ?_); rfl; rfl)
      | ((with_reducible refine wpList_convG (n := n) (c := c) ?_ ?_ r6 hn.out ?_); rfl; rfl))
    go_ret
    exact ⟨rfl, bw6⟩
  · have hl0 := hbad.out hE
    obtain rfl : m = 0 := by rw [← hm, hl0]; rfl
    have e0 : ((E : Int) == 0) = false := by simp; omega
    have e1 : ((E : Int) != 0) = true := by simp; omega
    replace hE := Lib.hid hE
    replace hl0 := Lib.hid hl0
    replace hm := Lib.hid hm
    go_wp2
    go_ret
    exact ⟨rfl, bw6⟩
theorem law_HeaderOnce (bs : List UInt8) (A : Option Addr) (n c : Nat) (hn : bs.length = n) (hc : n ≤ c) (w : World) (ht : Tabs w) (hr : Rd w A (bs.map bv)) : Calls Tryd.prog 7 #[.slice A n c] w fun e w' => e = .returned (.bool true) ∧ Below w.heap.size w w' := by
  by_cases hh : n ≤ 3000
  · by_cases h1 : n < 80
    · exact honce_1 bs A n c hn hc hh h1 w ht hr
    · by_cases h2 : 80 < n
      · exact honce_3 bs A n c hn hc hh h2 w ht hr
      · exact honce_0 bs A n c hn hc (by omega) w ht hr
  · exact honce_long A n c (by omega) w ht
end Go.Proofs.YtjgdmpbaikhflaaDoor
/- What came in, opened: hashes; slices of whatever elements; bytes. -/
namespace Go.Proofs.YtjgdmpbaikhflaaDoor
open Go.RowKit Go.ChangeShapes Go.WideShapes Go.ChangeAt

theorem mapM_each {α β : Type} {f : α → Option β} : ∀ {l : List α} {ys : List β}, l.mapM f = some ys → ∀ x ∈ l, ∃ y, f x = some y
  | [], _, _, x, hx => by cases hx
  | a :: l, ys, h, x, hx => by
    rw [List.mapM_cons] at h
    cases ha : f a with
    | none => rw [ha] at h; cases h
    | some y =>
      rw [ha] at h
      cases hl : l.mapM f with
      | none => rw [hl] at h; cases h
      | some zs =>
        rcases List.mem_cons.1 hx with rfl | hx
        · exact ⟨y, ha⟩
        · exact mapM_each hl x hx
theorem flat_get {α : Type} (g : α → List Value) (s : Nat) : ∀ (l : List α) (_ : ∀ x ∈ l, (g x).length = s) (i j : Nat) (x : α) (_ : l[i]? = some x) (_ : j < s), (l.flatMap g)[s * i + j]? = (g x)[j]?
  | [], _, i, j, x, hx, _ => by simp at hx
  | y :: l, h, 0, j, x, hx, hj => by
    obtain rfl : y = x := by simpa using hx
    rw [List.flatMap_cons, Nat.mul_zero, Nat.zero_add, List.getElem?_append_left (by rw [h y (List.mem_cons_self ..)]; exact hj)]
  | y :: l, h, i + 1, j, x, hx, hj => by
    have hy := h y (List.mem_cons_self ..)
    rw [List.flatMap_cons, List.getElem?_append_right (by rw [hy, Nat.mul_add]; omega), hy, show s * (i + 1) + j - s = s * i + j by rw [Nat.mul_add]; omega]
    exact flat_get g s l (fun x hx => h x (List.mem_cons_of_mem _ hx)) i j x (by simpa using hx) hj
section
variable {H : Type} {enc : TypeId × Value → H} {w : World} {base : Nat} {spare : Nat → Bool} {held : Bool}
theorem cells_u8 : Tryd.prog.cellsOf 5 = 1 := by kernel_rfl
theorem cells_h : Tryd.prog.cellsOf 24 = 32 := by kernel_rfl
set_option maxRecDepth 10000 in
theorem open_hash {fuel : Nat} {cs : List Value} {x : DataW H × List MemPlace} (h : DataW.trod enc Tryd.prog w base spare held fuel 24 cs = some x) : ∃ bs : List UInt8, bs.length = 32 ∧ cs = bs.map bv := by
  cases fuel with
  | zero => cases h
  | succ fuel =>
    unfold DataW.trod at h
    rw [Tryd.underlying24] at h
    dsimp only at h
    rw [cells_h, cells_u8] at h
    split at h
    · rename_i hlen
      have hm : ∃ ys, (List.range 32).mapM (fun i => DataW.trod enc Tryd.prog w base spare held fuel 5 ((cs.drop (i * 1)).take 1)) = some ys := by
        cases hq : (List.range 32).mapM (fun i => DataW.trod enc Tryd.prog w base spare held fuel 5 ((cs.drop (i * 1)).take 1)) with
        | none => rw [hq] at h; cases h
        | some ys => exact ⟨ys, rfl⟩
      obtain ⟨ys, hm⟩ := hm
      have each : ∀ i, i < 32 → ∃ n : Int, cs[i]? = some (.int .u8 n) ∧ (Lit.int .u8 n).wf = true := by
        intro i hi
        obtain ⟨y, hy⟩ := mapM_each hm i (List.mem_range.2 hi)
        obtain ⟨n, hn, _, hw⟩ := DataW.trod_int Tryd.underlying5 hy
        refine ⟨n, ?_, hw⟩
        have : (List.take 1 (cs.drop (i * 1)))[0]? = some (.int .u8 n) := by rw [hn]; rfl
        simpa using this
      refine ⟨cs.map fun v => match v with | .int _ n => UInt8.ofNat n.toNat | _ => 0, by rw [List.length_map, hlen], ?_⟩
      rw [List.map_map]
      refine List.ext_getElem? fun i => ?_
      rw [List.getElem?_map]
      by_cases hi : i < 32
      · obtain ⟨n, hn, hw⟩ := each i hi
        rw [hn]
        have hb : 0 ≤ n ∧ n ≤ 255 := by simpa [Lit.wf, IntKind.min, IntKind.max, IntKind.signed, IntKind.bits] using hw
        have e : ((UInt8.ofNat n.toNat).toNat : Int) = n := by
          have : (UInt8.ofNat n.toNat).toNat = n.toNat % 256 := UInt8.toNat_ofNat'
          rw [this]; omega
        show some (Value.int IntKind.u8 n) = some (Value.int IntKind.u8 ((UInt8.ofNat n.toNat).toNat : Int))
        rw [e]
      · rw [List.getElem?_eq_none (by omega)]
        rfl
    · cases h
set_option maxRecDepth 10000 in
/-- a slice of elements that came in, each of which is known -/
theorem open_elems {α : Type} [Inhabited α] {t e : TypeId} {s : Nat} (ht : Tryd.prog.underlying t = some (.slice e)) (hc : Tryd.prog.cellsOf e = s) (hs : 0 < s) (g : α → List Value) (ok : α → Prop) (hg : ∀ x, ok x → (g x).length = s)
    (hop : ∀ (fuel : Nat) (cs : List Value) (y : DataW H × List MemPlace), DataW.trod enc Tryd.prog w base spare held fuel e cs = some y → ∃ x, cs = g x ∧ ok x)
    {fuel : Nat} {A : Option Addr} {n c : Nat} {x : DataW H × List MemPlace} (h : DataW.trod enc Tryd.prog w base spare held fuel t [.slice A n c] = some x) :
    ∃ l : List α, l.length = n ∧ n ≤ c ∧ c ≤ maxLen ∧ Rd w A (l.flatMap g) ∧ ∀ y ∈ l, ok y := by
  rcases Go.Deep.open_slice ht h with ⟨hcs, _⟩ | ⟨a, len, cap, m, k, D, Pl, hcs, _, hl, hm, hmm, _, hx⟩
  · simp at hcs
    obtain ⟨rfl, rfl, rfl⟩ := hcs
    exact ⟨[], rfl, Nat.le_refl _, (by decide), Rd.nil _ _, fun _ hx => (by cases hx)⟩
  · simp at hcs
    obtain ⟨rfl, rfl, rfl⟩ := hcs
    have hlm : n ≤ m := by rw [hmm]; split <;> omega
    rw [hc] at hx
    obtain ⟨f, hf⟩ := Go.Deep.choose_lt (α := α) (n := n) (p := fun i y => ok y ∧ w.cells? base (a.add (i * s)) s = some (g y)) (fun i hi => by
      obtain ⟨cs', h1, h2⟩ := hx i (by omega)
      obtain ⟨y, hb1, hb2⟩ := hop _ _ _ h2
      exact ⟨y, hb2, by rw [h1, hb1]⟩)
    have hlen : ((List.range n).map f).length = n := by simp
    have hok : ∀ y ∈ (List.range n).map f, ok y := fun y hy => by
      obtain ⟨i, hi, rfl⟩ := List.mem_map.1 hy
      exact (hf i (List.mem_range.1 hi)).1
    refine ⟨(List.range n).map f, hlen, hl, hm, ?_, hok⟩
    by_cases hn : n = 0
    · subst hn
      exact Rd.nil _ _
    · have hcell : ∀ i r, i < n → r < s → w.cell? ((a.add (i * s)).add r) = (g (f i))[r]? := fun i r hi hr => (World.cells?_some (hf i hi).2).2.2 r hr
      have hsp : a.spot = none := by
        have h0 := hcell 0 0 (by omega) hs
        have hl0 := hg _ (hf 0 (by omega)).1
        rw [List.getElem?_eq_getElem (by omega)] at h0
        cases hsp : a.spot with
        | none => rfl
        | some s =>
          simp [World.cell?, Addr.add, hsp] at h0
          split at h0 <;> simp at h0
      have ha : a = ⟨a.block, a.off, none⟩ := by cases a; simp_all
      refine .inr ⟨a.block, a.off, by rw [← ha], fun j u hu => ?_⟩
      have hflat : (((List.range n).map f).flatMap g).length = n * s := by
        have : ∀ l : List α, (∀ y ∈ l, (g y).length = s) → (l.flatMap g).length = l.length * s := by
          intro l
          induction l with
          | nil => simp
          | cons y l ih =>
            intro h
            rw [List.flatMap_cons, List.length_append, h y (List.mem_cons_self ..), ih fun z hz => h z (List.mem_cons_of_mem _ hz), List.length_cons, Nat.add_mul, Nat.one_mul, Nat.add_comm]
        rw [this _ fun y hy => hg y (hok y hy), hlen]
      have hj : j < n * s := by
        have := (List.getElem?_eq_some_iff.1 hu).1
        rw [hflat] at this
        exact this
      have hi : j / s < n := Nat.div_lt_of_lt_mul (by rw [Nat.mul_comm]; exact hj)
      have hr : j % s < s := Nat.mod_lt _ hs
      have hdm : s * (j / s) + j % s = j := Nat.div_add_mod j s
      have hgd : ((List.range n).map f)[j / s]? = some (f (j / s)) := by
        rw [List.getElem?_map, List.getElem?_range hi]
        rfl
      have hq := flat_get g s ((List.range n).map f) (fun y hy => hg y (hok y hy)) (j / s) (j % s) _ hgd hr
      rw [hdm] at hq
      rw [hq] at hu
      have hcl := hcell (j / s) (j % s) hi hr
      rw [hu, ha, addr_add, addr_add] at hcl
      rw [← hcl]
      congr 2
      rw [Nat.add_assoc, Nat.mul_comm (j / s) s, hdm]
theorem map_flat : ∀ l : List UInt8, l.map bv = l.flatMap fun b => [bv b]
  | [] => rfl
  | x :: l => by rw [List.map_cons, List.flatMap_cons, map_flat l]; rfl
/-- bytes that came in -/
theorem open_bytes {fuel : Nat} {A : Option Addr} {n c : Nat} {x : DataW H × List MemPlace} (h : DataW.trod enc Tryd.prog w base spare held fuel 37 [.slice A n c] = some x) :
    ∃ bs : List UInt8, bs.length = n ∧ n ≤ c ∧ c ≤ maxLen ∧ Rd w A (bs.map bv) := by
  obtain ⟨l, h1, h2, h3, h4, _⟩ := open_elems Tryd.underlying37 cells_u8 (by decide) (fun b : UInt8 => [bv b]) (fun _ => True) (fun _ _ => rfl) (fun fuel cs y hy => by
    obtain ⟨n, hn, _, hw⟩ := DataW.trod_int Tryd.underlying5 hy
    have hb : 0 ≤ n ∧ n ≤ 255 := by simpa [Lit.wf, IntKind.min, IntKind.max, IntKind.signed, IntKind.bits] using hw
    refine ⟨UInt8.ofNat n.toNat, ?_, trivial⟩
    have e : ((UInt8.ofNat n.toNat).toNat : Int) = n := by
      have : (UInt8.ofNat n.toNat).toNat = n.toNat % 256 := UInt8.toNat_ofNat'
      rw [this]; omega
    rw [hn, bv, e]) h
  refine ⟨l, h1, h2, h3, ?_⟩
  rw [map_flat]
  exact h4
end
end Go.Proofs.YtjgdmpbaikhflaaDoor
/- Headers that came in, opened. -/
namespace Go.Proofs.YtjgdmpbaikhflaaDoor
open Go.RowKit Go.ChangeShapes Go.WideShapes Go.ChangeAt
section
variable {H : Type} {enc : TypeId × Value → H} {w : World} {base : Nat} {spare : Nat → Bool} {held : Bool}
theorem cells_hd : Tryd.prog.cellsOf 26 = 68 := by kernel_rfl
theorem cells_u32h : Tryd.prog.cellsOf 22 = 1 := by kernel_rfl
theorem one_ofh {cs : List Value} {i : Nat} {v : Value} (h : (cs.drop i).take 1 = [v]) : cs[i]? = some v := by
  have : ((cs.drop i).take 1)[0]? = some v := by rw [h]; rfl
  simpa using this
theorem u32_ofh {fuel : Nat} {cs : List Value} {x : DataW H × List MemPlace} (h : DataW.trod enc Tryd.prog w base spare held fuel 22 cs = some x) : ∃ n : Nat, cs = [.int .u32 (n : Int)] ∧ n < 4294967296 := by
  obtain ⟨i, e1, _, w1⟩ := DataW.trod_int Tryd.underlying22 h
  have b1 : 0 ≤ i ∧ i ≤ 4294967295 := by simpa [Lit.wf, IntKind.min, IntKind.max, IntKind.signed, IntKind.bits] using w1
  exact ⟨i.toNat, by rw [e1, show ((i.toNat : Nat) : Int) = i by omega], by omega⟩
theorem open_hd (fuel : Nat) (cs : List Value) (y : DataW H × List MemPlace) (h : DataW.trod enc Tryd.prog w base spare held fuel 26 cs = some y) : ∃ x : Hd, cs = hdc x ∧ x.ok := by
  obtain ⟨xs, n, _, rfl, hl, hlen, hf⟩ := DataW.trod_struct Tryd.underlying26 h
  rw [cells_hd] at hl
  match xs, hlen with
  | [y0, y1, y2, y3, y4, y5], _ =>
    have h0 : DataW.trod enc Tryd.prog w base spare held n 22 ((cs.drop 0).take (Tryd.prog.cellsOf 22)) = some y0 := by simpa using hf 0 _ rfl
    have h1 : DataW.trod enc Tryd.prog w base spare held n 24 ((cs.drop 1).take (Tryd.prog.cellsOf 24)) = some y1 := by simpa using hf 1 _ rfl
    have h2 : DataW.trod enc Tryd.prog w base spare held n 24 ((cs.drop 33).take (Tryd.prog.cellsOf 24)) = some y2 := by simpa using hf 2 _ rfl
    have h3 : DataW.trod enc Tryd.prog w base spare held n 22 ((cs.drop 65).take (Tryd.prog.cellsOf 22)) = some y3 := by simpa using hf 3 _ rfl
    have h4 : DataW.trod enc Tryd.prog w base spare held n 22 ((cs.drop 66).take (Tryd.prog.cellsOf 22)) = some y4 := by simpa using hf 4 _ rfl
    have h5 : DataW.trod enc Tryd.prog w base spare held n 22 ((cs.drop 67).take (Tryd.prog.cellsOf 22)) = some y5 := by simpa using hf 5 _ rfl
    rw [cells_u32h] at h0 h3 h4 h5
    rw [cells_h] at h1 h2
    obtain ⟨a0, e0, b0⟩ := u32_ofh h0
    obtain ⟨p, hp, e1⟩ := open_hash h1
    obtain ⟨r, hr, e2⟩ := open_hash h2
    obtain ⟨a3, e3, b3⟩ := u32_ofh h3
    obtain ⟨a4, e4, b4⟩ := u32_ofh h4
    obtain ⟨a5, e5, b5⟩ := u32_ofh h5
    refine ⟨⟨a0, p, r, a3, a4, a5⟩, ?_, b0, hp, hr, b3, b4, b5⟩
    rw [List.drop_zero] at e0
    have d1 := List.take_append_drop 32 (cs.drop 1)
    have d2 := List.take_append_drop 32 (cs.drop 33)
    rw [e1, List.drop_drop] at d1
    rw [e2, List.drop_drop] at d2
    have g0 := List.take_append_drop 1 cs
    rw [e0] at g0
    have k3 := one_ofh e3
    have k4 := one_ofh e4
    have k5 := one_ofh e5
    have hd : (cs.drop 65).length = 3 := by rw [List.length_drop, hl]
    have l3 : (cs.drop 65)[0]? = some (.int .u32 (a3 : Int)) := by rw [List.getElem?_drop]; exact k3
    have l4 : (cs.drop 65)[1]? = some (.int .u32 (a4 : Int)) := by rw [List.getElem?_drop]; exact k4
    have l5 : (cs.drop 65)[2]? = some (.int .u32 (a5 : Int)) := by rw [List.getElem?_drop]; exact k5
    have d3 : cs.drop 65 = [.int .u32 (a3 : Int), .int .u32 (a4 : Int), .int .u32 (a5 : Int)] := by
      match hcs : cs.drop 65, hd with
      | [a, b, d], _ =>
        rw [hcs] at l3 l4 l5
        simp only [List.getElem?_cons_zero, List.getElem?_cons_succ, Option.some.injEq] at l3 l4 l5
        rw [l3, l4, l5]
    rw [← g0, ← d1, ← d2, d3]
    rfl
/-- a slice of headers that came in -/
theorem open_hds {fuel : Nat} {A : Option Addr} {n c : Nat} {x : DataW H × List MemPlace} (h : DataW.trod enc Tryd.prog w base spare held fuel 34 [.slice A n c] = some x) : ∃ l : List Hd, l.length = n ∧ n ≤ c ∧ c ≤ maxLen ∧ RdHds w A l := by
  obtain ⟨l, h1, h2, h3, h4, h5⟩ := open_elems Tryd.underlying34 cells_hd (by decide) hdc Hd.ok (fun x hx => hdc_length hx) open_hd h
  exact ⟨l, h1, h2, h3, h4, h5⟩
end
end Go.Proofs.YtjgdmpbaikhflaaDoor
namespace Go.Proofs.YtjgdmpbaikhflaaDoor.headerOnce
open Go.ChangeShapes Go.WideShapes Go.ChangeAt Go.RowKit
theorem own : ownKnob Tryd.prog.godebug = Option.none := by kernel_rfl
theorem laidOut : laidOutB Tryd.prog = true := by kernel_rfl

set_option maxRecDepth 100000 in
theorem contract (H : Type) (enc : TypeId × Value → H) (W : World) (base : Nat) (args : Array Value) (ds gs : List (DataW H)) (before : List MemPlace)
    (hval : ∀ (j : Nat) t v, Tryd.f7.params[j]? = some t → args[j]? = some v → Value.okWide Tryd.prog W .any base t v)
    (hW : DataW.Whole enc Tryd.prog Tryd.f7.params.toList Rows.headerOnceSpec.vars false W args.toList ds gs before) (hL : laidMetH Tryd.prog Rows.headerOnceRow.laid W) :
    Calls Tryd.prog 7 args W fun e W' => ∃ v, e = .returned v ∧ Rows.headerOnceSpec.post enc Tryd.prog Tryd.f7 false true false false W args v W' := by
  have hW' := hW
  obtain ⟨p, q, hA0, hV, rfl, hfz, hnd⟩ := hW
  have hA : DataW.TrodAll enc Tryd.prog W 0 (fun _ => true) true Tryd.f7.params.toList args.toList ds p := hA0
  rw [Tryd.params7] at hA hval
  obtain ⟨v0, vs0, d0, ds0, p0, q0, hargs, rfl, rfl, h0, r0⟩ := trodAll_cons hA
  obtain ⟨rfl, rfl, rfl⟩ := trodAll_nil r0
  obtain rfl : args = #[v0] := by cases args; simp_all
  obtain ⟨rfl, rfl⟩ := trodVars_none hV
  have k0 := h0
  have lt0 : ∀ x ∈ p0, x.block < W.heap.size := by obtain ⟨m, hm⟩ := k0; exact DataW.trod_lt m _ _ _ hm
  obtain ⟨A0, n0, c0, rfl⟩ := okWide_slice Tryd.underlying37 (hval 0 37 v0 rfl rfl)
  obtain ⟨fuel0, hf0⟩ := h0
  obtain ⟨bs0, hn0, hc0, hx0, rB0⟩ := open_bytes hf0
  have ht : Tabs W := tabs_of_laid hL
  clear hA0
  refine (law_HeaderOnce bs0 A0 n0 c0 hn0 hc0 W ht rB0).mono fun e W' ⟨he, bel⟩ => ?_
  subst he
  exact ⟨_, rfl, _, _, _, [], _, [], hW', trodAll_mk1 (shut_bool Tryd.underlying4 _), (trodAll_cons_mk (Below.trod laidOut (by kernel_rfl) (of_decide_eq_true (by kernel_rfl)) k0 bel lt0) trodAll_mk0), rfl, bel.frame _, fun h => by cases h⟩

theorem laid_met (os : Os) : laidMet Tryd.prog Rows.headerOnceRow.laid (((tabWorld os)).forCall (fun _ _ => 0) ⟨#[], #[.slice none 0 0], []⟩).memory :=
  laidMet_of_run' 8 (by kernel_rfl) (by kernel_rfl)
theorem reads (os : Os) {H : Type} (enc : TypeId × Value → H) : ∃ places, DataW.whole enc Tryd.prog ((tabWorld os).forCall (fun _ _ => 0) ⟨#[], #[.slice none 0 0], []⟩).memory Tryd.f7.params.toList Rows.headerOnceSpec.vars false #[(.slice none 0 0 : Value)].toList 8 = some ([.nil], [], places) :=
  ⟨[], by kernel_rfl⟩

set_option maxRecDepth 100000 in
theorem lifted (os : Os) (started : os.Started) (H : Type) (enc : TypeId × Value → H) (F : Stop.Interp) :
    ReturnsInHanded {} Tryd.checked os 7 .any ((OpenSpec.ofChange Rows.headerOnceSpec).preRow enc Tryd.prog Tryd.f7 Rows.headerOnceRow.domain false Rows.headerOnceRow.laid) (((OpenSpec.ofChange Rows.headerOnceSpec).at F).post enc Tryd.prog Tryd.f7 false true false false) := by
  obtain ⟨places, hx⟩ := reads os enc
  refine returnsInHanded_of_row (C := Tryd.checked) (s := OpenSpec.ofChange Rows.headerOnceSpec) own started (by kernel_rfl) Tryd.func7
    (witness_row_at (enc := enc) (C := Tryd.checked) false (tabWorld os) #[.slice none 0 0] rfl (by kernel_rfl) (by kernel_rfl) (by kernel_rfl)
      (OpenSpec.preRow_of_cond 8 hx (by kernel_rfl) (fun k hk => by cases hk) (by kernel_rfl) (laid_met os))) ?_
  intro W base args ds gs before hval hW _ _ _ hL _ _
  exact contract H enc W base args ds gs before hval hW hL

theorem said : Rows.HeaderOnceSaid :=
  OpenClaim.holds_of_cond 7 Tryd.f7 rfl rfl rfl rfl rfl rfl rfl ⟨rfl, rfl, rfl, rfl, rfl⟩ rfl rfl rfl rfl rfl (by kernel_rfl) Tryd.func7 (by kernel_rfl)
    (of_decide_eq_true (by kernel_rfl)) (by unfold Func.isWrapper; first | (rw [if_pos (by decide +kernel)]; kernel_rfl) | (rw [if_neg (by decide +kernel)]; exact ⟨rfl, rfl⟩))
    (fun os started H enc _ F => by rw [OpenClaim.pre_eq_preRow]; exact lifted os started H enc F)

/-- No parameter wants a stand-in; the program's own looks are off. -/
theorem plain (f : FuncId) (fn : Func) (hf : Tryd.pinned.checked.prog.funcNamed "florin/florinlaw07.HeaderOnce" = some f) (hfn : Tryd.pinned.checked.prog.funcs[f]? = some fn) :
    false = Tryd.pinned.checked.prog.looks [] ∧ ∀ (j : Nat) t, fn.params[j]? = some t → Tryd.pinned.checked.prog.wantsStandIn t = false := by
  obtain rfl : f = 7 := Option.some.inj ((show Tryd.prog.funcNamed "florin/florinlaw07.HeaderOnce" = some 7 by kernel_rfl).symm.trans hf) |>.symm
  obtain rfl : fn = Tryd.f7 := (Option.some.inj (Tryd.func7.symm.trans hfn)).symm
  refine ⟨by kernel_rfl, fun j t ht => ?_⟩
  rw [Tryd.params7] at ht
  have := Array.mem_of_getElem? ht
  simp only [List.mem_toArray, List.mem_cons, List.not_mem_nil, or_false] at this
  obtain rfl := this
  exact (show Tryd.prog.wantsStandIn 37 = false by kernel_rfl)

/-- The statement. -/
theorem card : Rows.HeaderOnceCardSaid :=
  Claim7.holds_tied_plain_at .later [] _ _ _ _ said (fun _ h => by cases h) (by kernel_rfl) (fun _ h => by cases h) headerOnce_row_tie rfl ⟨rfl, rfl⟩ (by kernel_rfl) rfl plain (by kernel_rfl)
end Go.Proofs.YtjgdmpbaikhflaaDoor.headerOnce
