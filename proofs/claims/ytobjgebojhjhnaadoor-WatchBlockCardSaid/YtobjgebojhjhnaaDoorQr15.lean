import Derived.Test.YtobjgebojhjhnaaDoorQr14
import Derived.Test.YtobjgebojhjhnaaDoorQr2
import Derived.Test.YtobjgebojhjhnaaDoorQr1
namespace Go.Proofs.YtobjgebojhjhnaaDoor
open Go.RowKit
def mOn (ns : List Nd) (tip : Int) (i : Nat) : Bool := decide (0 ≤ tip ∧ tip < ns.length ∧ tHgt ns i ≤ tHgt ns tip.toNat ∧ tAnc ns tip.toNat (tHgt ns tip.toNat - tHgt ns i) = i)
def mDep (ns : List Nd) (tip : Int) (i : Nat) : Nat := if mOn ns tip i then tHgt ns tip.toNat - tHgt ns i + 1 else 0
theorem TRef.len_le {w : World} {v : Value} {ns : List Nd} (h : TRef w v ns) : ns.length ≤ 1048576 := by
 rcases h with ⟨_, rfl⟩ | ⟨R, most, A, n, c, M, _, T⟩
 ·simp
 ·have := T.len
  have := T.small
  omega
set_option maxRecDepth 10000 in
set_option maxHeartbeats 2000000 in
theorem FDepth_off (v : Value) (ns : List Nd) (ok : TOk ns) (tip : Int) (ht : -9223372036854775808 ≤ tip ∧ tip ≤ 9223372036854775807) (i : Nat) (hi : i < ns.length) (w : World) (hv : TRef w v ns) (h0 : ¬ (0 ≤ tip ∧ tip < ns.length ∧ (tHgt ns i : Int) ≤ tHgt ns tip.toNat)) :
  Calls Tryd.prog 76 #[v, .int .i64 tip, .int .i64 (i : Int)] w fun e w' => e = .returned (.tuple #[.int .i64 0, .bool false]) ∧ Below w.heap.size w w' := by
 have hzc := zcN_c
 have hlen := hv.len_le
 obtain ⟨nd, hnd⟩ : ∃ nd, ns[i]? = some nd := ⟨_, List.getElem?_eq_getElem hi⟩
 have HN := TNode v ns (i : Int) (by omega) w hv
 rw [nodeV_in hnd] at HN
 have nok := ok.nds nd (List.mem_of_getElem? hnd)
 have l106 := Lib.hid (ndc_length nok)
 have one2 := Lib.hid (List.all_eq_true.2 (ndc_one nd))
 obtain ⟨_, q101⟩ := ndc_at nok
 have hth := tHgt_at hnd
 obtain ⟨G, hG⟩ : ∃ G, G = nd.hgt := ⟨_, rfl⟩
 rw [← hG] at hth q101
 have HA := fun w' r => TAbove v ns ok tip (G : Int) ht w' r
 have hz : aboveV ns tip (G : Int) = .tuple #[.int .i64 0, .bool false] := by
  rw [aboveV, if_neg (by rw [hth] at h0; omega)]
 rw [hz] at HA
 replace HN := Lib.hid HN
 replace HA := Lib.hid HA
 replace hG := Lib.hid hG
 replace q101 := Lib.hid q101
 replace hnd := Lib.hid hnd
 replace hth := Lib.hid hth
 clear nok
 go_enter Tryd.func76, Tryd.ntmps76
 go_upto_region 2 with (first
  | (go_at_call 52; refine (HN.out).mono ?_; rintro e w1 ⟨rfl, b1⟩)
  | ((with_reducible refine wpList_storeF 141 ((Below.refl w1.heap.size w1).alloc (Nat.le_refl _) _) (heap_alloc_new _ _) (Nat.le_refl _) (ndc nd) ?_ ?_ 106 ?_ ?_ ?_ ?_ ?_); rfl; rfl; exact l106.out; kernel_rfl; exact zcN_len; exact one2.out; intro w2 a2 b2 z2; clear z2; intro z2; replace z2 := Lib.hid z2))
 have b3 := b1.trans (b2.mono b1.size)
 have v2 := hv.below b3
 have c101 := a2.cell 101 _ q101.out
 clear a2 b1 b2
 go_wp2_with (go_at_call 91; refine (HA.out w2 v2).mono ?_; rintro e w4 ⟨rfl, b4⟩)
 go_ret2
 exact ⟨rfl, b3.trans (b4.mono b3.size)⟩
set_option maxRecDepth 10000 in
set_option maxHeartbeats 2000000 in
theorem FDepth_else (v : Value) (ns : List Nd) (ok : TOk ns) (tip : Int) (ht : -9223372036854775808 ≤ tip ∧ tip ≤ 9223372036854775807) (i : Nat) (hi : i < ns.length) (w : World) (hv : TRef w v ns) (h0 : 0 ≤ tip ∧ tip < ns.length ∧ (tHgt ns i : Int) ≤ tHgt ns tip.toNat) (h1 : tAnc ns tip.toNat (tHgt ns tip.toNat - tHgt ns i) ≠ i) :
  Calls Tryd.prog 76 #[v, .int .i64 tip, .int .i64 (i : Int)] w fun e w' => e = .returned (.tuple #[.int .i64 0, .bool false]) ∧ Below w.heap.size w w' := by
 have hzc := zcN_c
 have hlen := hv.len_le
 obtain ⟨nd, hnd⟩ : ∃ nd, ns[i]? = some nd := ⟨_, List.getElem?_eq_getElem hi⟩
 have HN := TNode v ns (i : Int) (by omega) w hv
 rw [nodeV_in hnd] at HN
 have nok := ok.nds nd (List.mem_of_getElem? hnd)
 have l106 := Lib.hid (ndc_length nok)
 have one2 := Lib.hid (List.all_eq_true.2 (ndc_one nd))
 obtain ⟨_, q101⟩ := ndc_at nok
 have hth := tHgt_at hnd
 obtain ⟨G, hG⟩ : ∃ G, G = nd.hgt := ⟨_, rfl⟩
 rw [← hG] at hth q101
 have HA := fun w' r => TAbove v ns ok tip (G : Int) ht w' r
 obtain ⟨on, hon⟩ : ∃ on, on = tAnc ns tip.toNat (tHgt ns tip.toNat - tHgt ns i) := ⟨_, rfl⟩
 have hz : aboveV ns tip (G : Int) = .tuple #[.int .i64 (on : Int), .bool true] := by
  rw [aboveV, if_pos (by rw [hth] at h0; omega), hon, hth, Int.toNat_natCast]
 rw [hz] at HA
 rw [← hon] at h1
 have t1 : ((on : Int) != (i : Int)) = true := by simp; omega
 replace hon := Lib.hid hon
 replace HN := Lib.hid HN
 replace HA := Lib.hid HA
 replace hG := Lib.hid hG
 replace q101 := Lib.hid q101
 replace hnd := Lib.hid hnd
 replace hth := Lib.hid hth
 clear nok
 go_enter Tryd.func76, Tryd.ntmps76
 go_upto_region 2 with (first
  | (go_at_call 52; refine (HN.out).mono ?_; rintro e w1 ⟨rfl, b1⟩)
  | ((with_reducible refine wpList_storeF 141 ((Below.refl w1.heap.size w1).alloc (Nat.le_refl _) _) (heap_alloc_new _ _) (Nat.le_refl _) (ndc nd) ?_ ?_ 106 ?_ ?_ ?_ ?_ ?_); rfl; rfl; exact l106.out; kernel_rfl; exact zcN_len; exact one2.out; intro w2 a2 b2 z2; clear z2; intro z2; replace z2 := Lib.hid z2))
 have b3 := b1.trans (b2.mono b1.size)
 have v2 := hv.below b3
 have c101 := a2.cell 101 _ q101.out
 clear a2 b1 b2
 go_wp2_with (go_at_call 91; refine (HA.out w2 v2).mono ?_; rintro e w4 ⟨rfl, b4⟩)
 go_ret2
 exact ⟨rfl, b3.trans (b4.mono b3.size)⟩
set_option maxRecDepth 10000 in
set_option maxHeartbeats 2000000 in
theorem FDepth_on (v : Value) (ns : List Nd) (ok : TOk ns) (tip : Int) (ht : -9223372036854775808 ≤ tip ∧ tip ≤ 9223372036854775807) (i : Nat) (hi : i < ns.length) (w : World) (hv : TRef w v ns) (k : Nat) (hk : tip = (k : Int)) (h0 : k < ns.length) (h2 : tHgt ns i ≤ tHgt ns k) (h1 : tAnc ns k (tHgt ns k - tHgt ns i) = i) :
  Calls Tryd.prog 76 #[v, .int .i64 tip, .int .i64 (i : Int)] w fun e w' => e = .returned (.tuple #[.int .i64 ((tHgt ns k - tHgt ns i + 1 : Nat) : Int), .bool true]) ∧ Below w.heap.size w w' := by
 subst hk
 have hzc := zcN_c
 have hlen := hv.len_le
 obtain ⟨nd, hnd⟩ : ∃ nd, ns[i]? = some nd := ⟨_, List.getElem?_eq_getElem hi⟩
 have HN := TNode v ns (i : Int) (by have := hv.len_le; omega) w hv
 rw [nodeV_in hnd] at HN
 have nok := ok.nds nd (List.mem_of_getElem? hnd)
 have l106 := Lib.hid (ndc_length nok)
 have one2 := Lib.hid (List.all_eq_true.2 (ndc_one nd))
 obtain ⟨_, q101⟩ := ndc_at nok
 have hth := tHgt_at hnd
 obtain ⟨G, hG⟩ : ∃ G, G = nd.hgt := ⟨_, rfl⟩
 rw [← hG] at hth q101
 have HA := fun w' r => TAbove v ns ok (k : Int) (G : Int) ht w' r
 obtain ⟨md, hmd⟩ : ∃ nd, ns[k]? = some nd := ⟨_, List.getElem?_eq_getElem h0⟩
 have HT := fun w' r => TNode v ns (k : Int) ht w' r
 rw [nodeV_in hmd] at HT
 have mok := ok.nds md (List.mem_of_getElem? hmd)
 have m106 := Lib.hid (ndc_length mok)
 have onem := Lib.hid (List.all_eq_true.2 (ndc_one md))
 obtain ⟨_, p101⟩ := ndc_at mok
 have hkh := tHgt_at hmd
 have hle := ok.hgt_le h0
 obtain ⟨T, hT⟩ : ∃ T, T = md.hgt := ⟨_, rfl⟩
 rw [← hT] at hkh p101
 have hz : aboveV ns (k : Int) (G : Int) = .tuple #[.int .i64 (i : Int), .bool true] := by
  rw [aboveV, if_pos (by rw [hth] at h2; simp only [Int.toNat_natCast]; omega), Int.toNat_natCast, Int.toNat_natCast, ← hth, h1]
 rw [hz] at HA
 rw [hth, hkh] at h2
 rw [hkh] at hle
 obtain ⟨F, hF⟩ : ∃ F, F = T - G := ⟨_, rfl⟩
 have eA : ((tHgt ns k - tHgt ns i + 1 : Nat) : Int) = ((F + 1 : Nat) : Int) := by rw [hth, hkh, ← hF]
 rw [eA]
 have e1 : IntKind.i64.wrap ((T : Int) - (G : Int)) = (F : Int) := by rw [IntKind.wrap_i64]; omega
 have e2 : IntKind.i64.wrap ((F : Int) + 1) = ((F + 1 : Nat) : Int) := by rw [IntKind.wrap_i64]; omega
 have t1 : ((i : Int) != (i : Int)) = false := by simp
 replace HT := Lib.hid HT
 replace hT := Lib.hid hT
 replace hF := Lib.hid hF
 replace p101 := Lib.hid p101
 replace hmd := Lib.hid hmd
 replace hkh := Lib.hid hkh
 replace eA := Lib.hid eA
 clear mok h1
 replace HN := Lib.hid HN
 replace HA := Lib.hid HA
 replace hG := Lib.hid hG
 replace q101 := Lib.hid q101
 replace hnd := Lib.hid hnd
 replace hth := Lib.hid hth
 clear nok
 go_enter Tryd.func76, Tryd.ntmps76
 go_upto_region 2 with (first
  | (go_at_call 52; refine (HN.out).mono ?_; rintro e w1 ⟨rfl, b1⟩)
  | ((with_reducible refine wpList_storeF 141 ((Below.refl w1.heap.size w1).alloc (Nat.le_refl _) _) (heap_alloc_new _ _) (Nat.le_refl _) (ndc nd) ?_ ?_ 106 ?_ ?_ ?_ ?_ ?_); rfl; rfl; exact l106.out; kernel_rfl; exact zcN_len; exact one2.out; intro w2 a2 b2 z2; clear z2; intro z2; replace z2 := Lib.hid z2))
 have b3 := b1.trans (b2.mono b1.size)
 have v2 := hv.below b3
 have c101 := a2.cell 101 _ q101.out
 go_upto_region 7 with (go_at_call 91; refine (HA.out w2 v2).mono ?_; rintro e w4 ⟨rfl, b4⟩)
 have b5 := b3.trans (b4.mono b3.size)
 have v4 := hv.below b5
 have a4 := a2.below b4
 clear c101
 go_upto_region 8 with (first
  | (go_at_call 52; refine (HT.out w4 v4).mono ?_; rintro e w6 ⟨rfl, b6⟩)
  | ((with_reducible refine wpList_storeF 141 ((Below.refl w6.heap.size w6).alloc (Nat.le_refl _) _) (heap_alloc_new _ _) (Nat.le_refl _) (ndc md) ?_ ?_ 106 ?_ ?_ ?_ ?_ ?_); rfl; rfl; exact m106.out; kernel_rfl; exact zcN_len; exact onem.out; intro w7 a7 b7 z7; clear z7; intro z7; replace z7 := Lib.hid z7))
 have b8 := b6.trans (b7.mono b6.size)
 have b9 := b5.trans (b8.mono b5.size)
 have c1 := (a4.below b8).cell 101 _ q101.out
 have c2 := a7.cell 101 _ p101.out
 clear a2 a4 a7
 go_wp2
 go_ret2
 exact ⟨rfl, b9⟩
theorem FDepth (v : Value) (ns : List Nd) (ok : TOk ns) (tip : Int) (ht : -9223372036854775808 ≤ tip ∧ tip ≤ 9223372036854775807) (i : Nat) (hi : i < ns.length) (w : World) (hv : TRef w v ns) :
  Calls Tryd.prog 76 #[v, .int .i64 tip, .int .i64 (i : Int)] w fun e w' => e = .returned (.tuple #[.int .i64 (mDep ns tip i : Int), .bool (mOn ns tip i)]) ∧ Below w.heap.size w w' := by
 by_cases h0 : 0 ≤ tip ∧ tip < ns.length ∧ (tHgt ns i : Int) ≤ tHgt ns tip.toNat
 ·by_cases h1 : tAnc ns tip.toNat (tHgt ns tip.toNat - tHgt ns i) = i
  ·have e1 : mOn ns tip i = true := decide_eq_true ⟨h0.1, h0.2.1, by have := h0.2.2; omega, h1⟩
   have e2 : mDep ns tip i = tHgt ns tip.toNat - tHgt ns i + 1 := by rw [mDep, if_pos e1]
   rw [e1, e2]
   exact FDepth_on v ns ok tip ht i hi w hv tip.toNat (by omega) (by omega) (by have := h0.2.2; omega) h1
  ·have e1 : mOn ns tip i = false := decide_eq_false fun h => h1 h.2.2.2
   have e2 : mDep ns tip i = 0 := by rw [mDep, e1]; rfl
   rw [e1, e2]
   exact FDepth_else v ns ok tip ht i hi w hv h0 h1
 ·have e1 : mOn ns tip i = false := decide_eq_false fun h => h0 ⟨h.1, h.2.1, by have := h.2.2.1; omega⟩
  have e2 : mDep ns tip i = 0 := by rw [mDep, e1]; rfl
  rw [e1, e2]
  exact FDepth_off v ns ok tip ht i hi w hv h0
end Go.Proofs.YtobjgebojhjhnaaDoor
namespace Go.Proofs.YtobjgebojhjhnaaDoor
open Go.RowKit
def wtc (As At An : Option Addr) (ns cs nt ct nn cn : Nat) : List Value := [.slice As ns cs, .slice At nt ct, .slice An nn cn]
def zeroCf : Cf := ⟨List.replicate 32 0, List.replicate 32 0, 0, 0⟩
theorem zeroCf_ok : zeroCf.ok := ⟨by simp [zeroCf], by simp [zeroCf]⟩
theorem zeros_Cf : Tryd.zeroCells84 = (cfc zeroCf).toArray := by kernel_rfl
theorem zeros_Sn : Tryd.zeroCells58 = (snc ⟨List.replicate 32 0, List.replicate 32 0, 0⟩).toArray := by kernel_rfl
theorem size_intW : (Tryd.prog.info? 3).map (·.size) = some 1 := by kernel_rfl
theorem cf_places : (match Tryd.prog.underlying 84 with | some (.struct fs) => fs.toList.mapM (fun f => (Tryd.prog.info? f.type).map fun i => (f.offset, i.size)) | _ => none) = some [(0, 32), (32, 32), (64, 1), (65, 1)] := by kernel_rfl
theorem cf_zero : (Tryd.prog.info? 84).map (·.zero) = some (some (.agg (cfc zeroCf).toArray)) := by kernel_rfl
set_option maxRecDepth 10000 in
theorem cf_built (x y : List UInt8) (p : Int) (hx : x.length = 32) (hy : y.length = 32) : Tryd.prog.built 84 [(0, .agg (hcs x)), (1, .agg (hcs y)), (2, .int .i64 p)] = some (cfc ⟨x, y, p, 0⟩).toArray := by
 have hp := cf_places
 rw [Tryd.underlying84] at hp
 rw [built_struct Tryd.underlying84 cf_zero hp]
 have z32 : ((List.replicate 32 (0 : UInt8)).map bv).length = 32 := rfl
 show Instr.fill _ (([] ++ ((List.replicate 32 (0 : UInt8)).map bv ++ ((List.replicate 32 (0 : UInt8)).map bv ++ [Value.int .i64 0, Value.int .i64 0]))) : List Value).toArray _ = some (x.map bv ++ (y.map bv ++ [Value.int .i64 p, Value.int .i64 0])).toArray
 generalize (List.replicate 32 (0 : UInt8)).map bv = Z at *
 refine Eq.trans (fill_step [] Z (x.map bv) _ (off := 0) (size := 32) rfl rfl (by simpa using hx) rfl z32) ?_
 rw [show ([] ++ (x.map bv ++ (Z ++ [Value.int .i64 0, Value.int .i64 0])) : List Value) = x.map bv ++ (Z ++ [Value.int .i64 0, Value.int .i64 0]) from rfl]
 refine Eq.trans (fill_step (x.map bv) Z (y.map bv) _ (off := 32) (size := 32) rfl rfl (by simpa using hy) (by simpa using hx) z32) ?_
 rw [show (x.map bv ++ (y.map bv ++ [Value.int .i64 0, Value.int .i64 0]) : List Value) = (x.map bv ++ y.map bv) ++ ([Value.int .i64 0] ++ [Value.int .i64 0]) by simp]
 refine Eq.trans (fill_step (x.map bv ++ y.map bv) [Value.int .i64 0] [Value.int .i64 p] _ (off := 64) (size := 1) rfl rfl rfl (by simp [hx, hy]) rfl) ?_
 simp [Instr.fill]
def confM (ns : List Nd) (tip : Int) (s : Sn) : Cf := ⟨s.id, s.blk, s.pos, match tFind ns s.blk with
 | some i => mDep ns tip i
 | none => 0⟩
theorem confM_ok {ns : List Nd} {tip : Int} {s : Sn} (h : s.ok) : (confM ns tip s).ok := h
theorem cfc_dep {c : Cf} (h : c.ok) (k : Nat) : (cfc c).set 65 (.int .i64 (k : Int)) = cfc { c with dep := k } := by
 unfold cfc
 rw [List.set_append_right _ _ (by simp [h.1]), List.set_append_right _ _ (by simp [h.1, h.2])]
 simp [h.1, h.2]
set_option maxRecDepth 10000 in
set_option maxHeartbeats 4000000 in
theorem WConf (v : Value) (ns : List Nd) (ok : TOk ns) (tip : Int) (htip : -9223372036854775808 ≤ tip ∧ tip ≤ 9223372036854775807) (s : Sn) (sok : s.ok) (w : World) (hv : TRef w v ns) :
  Calls Tryd.prog 51 #[.agg (snc s).toArray, v, .int .i64 tip] w fun e w' => e = .returned (.agg (cfc (confM ns tip s)).toArray) ∧ Below w.heap.size w w' := by
 have hzc := zeros_Cf
 obtain ⟨zs, hzs⟩ : ∃ zs, zs = cfc zeroCf := ⟨_, rfl⟩
 have hzl : zs.length = 66 := by rw [hzs]; exact cfc_length zeroCf_ok
 rw [← hzs] at hzc
 clear hzs
 have HF := fun w' r => TFind v ns s.blk sok.2 w' r
 obtain ⟨W, hW⟩ : ∃ W, W = (w.alloc (.cells (snc s).toArray 58)).alloc (.cells zs.toArray 84) := ⟨_, rfl⟩
 obtain ⟨H, hH⟩ : ∃ H, H = w.heap.size := ⟨_, rfl⟩
 have aW : Av W H 58 (snc s) := by rw [hW, hH]; exact heap_alloc2_old _ _ _
 have rW : Av W (H + 1) 84 zs := by rw [hW, hH]; exact heap_alloc2_new _ _ _
 have bW : Below w.heap.size w W := by rw [hW]; exact ((Below.refl _ _).alloc (Nat.le_refl _) _).alloc (by simp) _
 have sW : W.heap.size = H + 2 := by rw [hW, hH]; simp
 have vW := hv.below bW
 have r1 : W.rangeAt H 0 (s.id.map bv) := rg_sn_id aW.range0
 have r2 : W.rangeAt H 32 (s.blk.map bv) := by have := rg_sn_blk sok aW.range0; rwa [Nat.zero_add] at this
 have c3 := aW.cell 64 _ (snc_pos sok)
 have k1 := Lib.hid (show (s.id.map bv).length = 32 by rw [List.length_map, sok.1])
 have k2 := Lib.hid (show (s.blk.map bv).length = 32 by rw [List.length_map, sok.2])
 have hbt := Lib.hid (cf_built s.id s.blk s.pos sok.1 sok.2)
 obtain ⟨c0, hc0⟩ : ∃ c0 : Cf, c0 = ⟨s.id, s.blk, s.pos, 0⟩ := ⟨_, rfl⟩
 have c0ok : c0.ok := by rw [hc0]; exact sok
 have l0 := Lib.hid (cfc_length c0ok)
 have one0 := Lib.hid (List.all_eq_true.2 (cfc_one c0))
 rw [← hc0] at hbt
 obtain ⟨Z, hZ⟩ : ∃ Z, Z = confM ns tip s := ⟨_, rfl⟩
 rw [← hZ]
 have lZ : (cfc Z).length = 66 := by rw [hZ]; exact cfc_length (confM_ok sok)
 have oneZ := Lib.hid (List.all_eq_true.2 (cfc_one Z))
 have hH1 : w.heap.size ≤ H + 1 := by omega
 have hzN := zcN_c
 replace lZ := Lib.hid lZ
 replace hH := Lib.hid hH
 replace hW := Lib.hid hW
 replace sW := Lib.hid sW
 replace hzl := Lib.hid hzl
 replace HF := Lib.hid HF
 replace hc0 := Lib.hid hc0
 cases hf : tFind ns s.blk with
 | none =>
  have eZ : Z = c0 := by rw [hZ, hc0.out, confM, hf]
  rw [hf] at HF
  replace eZ := Lib.hid eZ
  replace hZ := Lib.hid hZ
  replace hf := Lib.hid hf
  go_enter Tryd.func51, Tryd.ntmps51
  go_upto_region 1 with fail
  rw [← hW.out, ← hH.out]
  go_upto_region 2 with (first
   | ((with_reducible refine wpList_loadMF 30 (s.id.map bv) r1 ?_ _ Tryd.underlying30 ?_ ?_ ?_); rfl; rfl; (rw [k1.out]; kernel_rfl))
   | ((with_reducible refine wpList_loadMF 30 (s.blk.map bv) r2 ?_ _ Tryd.underlying30 ?_ ?_ ?_); rfl; rfl; (rw [k2.out]; kernel_rfl))
   | ((with_reducible refine wpList_buildE (.agg (cfc c0).toArray) ?_ ?_); exact exec_build (cs := cfc c0) (ops := [(0, .tmp 11), (1, .tmp 13), (2, .tmp 15)]) rfl hbt.out)
   | ((with_reducible refine wpList_storeF 84 ((Below.refl W.heap.size W).alloc (Nat.le_refl _) _) (heap_alloc_new _ _) (Nat.le_refl _) (cfc c0) ?_ ?_ 66 ?_ ?_ ?_ ?_ ?_); rfl; rfl; exact l0.out; kernel_rfl; (rw [List.size_toArray]; exact hzl.out); exact one0.out; intro w2 a2 b2 q2 z2; clear q2))
  rw [sW.out] at a2 ⊢
  clear z2
  have vv := vW.below b2
  have rr := rW.below b2
  have qq : w2.rangeAt H 32 (s.blk.map bv) := by have := rg_sn_blk sok (aW.below b2).range0; rwa [Nat.zero_add] at this
  have bb := bW.trans (b2.mono bW.size)
  go_upto_region 5 with (first
   | ((with_reducible refine wpList_loadMF 30 (s.blk.map bv) qq ?_ _ Tryd.underlying30 ?_ ?_ ?_); rfl; rfl; (rw [k2.out]; kernel_rfl))
   | (go_at_call 16; refine (HF.out w2 vv).mono ?_; rintro e w3 ⟨rfl, b3⟩))
  have a3 := a2.below b3
  have r3 := rr.below b3
  have b4 := bb.trans (b3.mono bb.size)
  go_wp2_with (first
   | ((with_reducible refine wpList_loadF 84 a3 ?_ _ 66 l0.out Tryd.underlying84 ?_ ?_ ?_); rfl; rfl; kernel_rfl)
   | ((with_reducible refine wpList_storeFA 84 b4 r3 hH1 (cfc c0) ?_ ?_ 66 l0.out ?_ ?_ ?_ ?_); rfl; rfl; kernel_rfl; exact hzl.out; exact one0.out; intro w6 a6 b6 k6 z6))
  refine bodyPost_ret (results_cell_row rfl _ _ (H + 1) _ _ (0, 0) _ (by rfl) a6 Tryd.underlying84 rfl (by rw [List.size_toArray, l0.out]; kernel_rfl)) rfl ⟨by rw [eZ.out], b6⟩
 | some i =>
  have hi := tFind_lt hf
  have HD := fun w' r => FDepth v ns ok tip htip i hi w' r
  obtain ⟨d, hd⟩ : ∃ d, d = mDep ns tip i := ⟨_, rfl⟩
  have eZ : Z = { c0 with dep := d } := by rw [hZ, hc0.out, confM, hf, hd]
  have hset := cfc_dep c0ok d
  rw [← eZ] at hset
  rw [← hd] at HD
  rw [hf] at HF
  replace hset := Lib.hid hset
  replace eZ := Lib.hid eZ
  replace hZ := Lib.hid hZ
  replace hf := Lib.hid hf
  replace hd := Lib.hid hd
  replace HD := Lib.hid HD
  have l66 := Lib.hid (show 65 < (cfc c0).length by rw [l0.out]; omega)
  go_enter Tryd.func51, Tryd.ntmps51
  go_upto_region 1 with fail
  rw [← hW.out, ← hH.out]
  go_upto_region 2 with (first
   | ((with_reducible refine wpList_loadMF 30 (s.id.map bv) r1 ?_ _ Tryd.underlying30 ?_ ?_ ?_); rfl; rfl; (rw [k1.out]; kernel_rfl))
   | ((with_reducible refine wpList_loadMF 30 (s.blk.map bv) r2 ?_ _ Tryd.underlying30 ?_ ?_ ?_); rfl; rfl; (rw [k2.out]; kernel_rfl))
   | ((with_reducible refine wpList_buildE (.agg (cfc c0).toArray) ?_ ?_); exact exec_build (cs := cfc c0) (ops := [(0, .tmp 11), (1, .tmp 13), (2, .tmp 15)]) rfl hbt.out)
   | ((with_reducible refine wpList_storeF 84 ((Below.refl W.heap.size W).alloc (Nat.le_refl _) _) (heap_alloc_new _ _) (Nat.le_refl _) (cfc c0) ?_ ?_ 66 ?_ ?_ ?_ ?_ ?_); rfl; rfl; exact l0.out; kernel_rfl; (rw [List.size_toArray]; exact hzl.out); exact one0.out; intro w2 a2 b2 q2 z2; clear q2))
  rw [sW.out] at a2 ⊢
  clear z2
  have vv := vW.below b2
  have rr := rW.below b2
  have qq : w2.rangeAt H 32 (s.blk.map bv) := by have := rg_sn_blk sok (aW.below b2).range0; rwa [Nat.zero_add] at this
  have bb := bW.trans (b2.mono bW.size)
  go_upto_region 4 with (first
   | ((with_reducible refine wpList_loadMF 30 (s.blk.map bv) qq ?_ _ Tryd.underlying30 ?_ ?_ ?_); rfl; rfl; (rw [k2.out]; kernel_rfl))
   | (go_at_call 16; refine (HF.out w2 vv).mono ?_; rintro e w3 ⟨rfl, b3⟩))
  have a3 := a2.below b3
  have r3 := rr.below b3
  have v3 := vv.below b3
  have b4 := bb.trans (b3.mono bb.size)
  go_upto_region 5 with (first
   | (go_at_call 76; refine (HD.out w3 v3).mono ?_; rintro e w5 ⟨rfl, b5⟩; have a5 := a3.below b5)
   | ((with_reducible refine wpList_storeI 3 a5 l66.out .i64 (d : Int) ?_ ?_ size_intW ?_); rfl; rfl; intro w6 a6 f6))
  have r5 := f6.av (r3.below b5) (by omega)
  have b7 := b4.trans ((b5.mono b4.size).trans (f6.below (B := w.heap.size) (fun k hk => by have := hH.out; omega) (b4.trans (b5.mono b4.size)).size))
  rw [hset.out] at a6
  go_wp2_with (first
   | ((with_reducible refine wpList_loadF 84 a6 ?_ _ 66 lZ.out Tryd.underlying84 ?_ ?_ ?_); rfl; rfl; kernel_rfl)
   | ((with_reducible refine wpList_storeFA 84 b7 r5 hH1 (cfc Z) ?_ ?_ 66 lZ.out ?_ ?_ ?_ ?_); rfl; rfl; kernel_rfl; exact hzl.out; exact oneZ.out; intro w8 a8 b8 k8 z8))
  refine bodyPost_ret (results_cell_row rfl _ _ (H + 1) _ _ (0, 0) _ (by rfl) a8 Tryd.underlying84 rfl (by rw [List.size_toArray, lZ.out]; kernel_rfl)) rfl ⟨rfl, b8⟩
end Go.Proofs.YtobjgebojhjhnaaDoor
namespace Go.Proofs.YtobjgebojhjhnaaDoor
open Go.RowKit
def wLies (ns : List Nd) (tip : Int) (x : List UInt8) (s : Sn) : Bool := s.id == x && decide (0 < (confM ns tip s).dep)
def wDepth (ns : List Nd) (tip : Int) (x : List UInt8) (l : List Sn) : Cf × Bool := match l.find? (wLies ns tip x) with
 | some s => (confM ns tip s, true)
 | none => (zeroCf, false)
theorem wDepth_yes {ns : List Nd} {tip : Int} {x : List UInt8} {l : List Sn} {s : Sn} {j : Nat} (hs : l[j]? = some s) (h : wLies ns tip x s = true) (hl : ∀ i, i < j → ∀ z, l[i]? = some z → wLies ns tip x z = false) : wDepth ns tip x l = (confM ns tip s, true) := by
 unfold wDepth
 obtain ⟨h1, h2⟩ := List.getElem?_eq_some_iff.1 hs
 rw [List.find?_eq_some_iff_getElem.2 ⟨h, j, h1, h2, fun i hi => by simp [hl i hi _ (List.getElem?_eq_getElem (by omega))]⟩]
theorem wDepth_no {ns : List Nd} {tip : Int} {x : List UInt8} {l : List Sn} (hl : ∀ i, i < l.length → ∀ z, l[i]? = some z → wLies ns tip x z = false) : wDepth ns tip x l = (zeroCf, false) := by
 unfold wDepth
 rw [List.find?_eq_none.2 fun z hz => by
  obtain ⟨i, hi, rfl⟩ := List.getElem_of_mem hz
  rw [hl i hi _ (List.getElem?_eq_getElem hi)]
  simp]
set_option maxRecDepth 10000 in
set_option maxHeartbeats 4000000 in
theorem WDepth (As At An : Option Addr) (ns cs nt ct nn cn : Nat) (l : List Sn) (hn : l.length = nn) (hm : nn ≤ 1000000) (v : Value) (ds : List Nd) (ok : TOk ds) (tip : Int) (htip : -9223372036854775808 ≤ tip ∧ tip ≤ 9223372036854775807) (x : List UInt8) (hx : x.length = 32) (w : World) (hv : TRef w v ds) (hr : RdSns w An l) :
  Calls Tryd.prog 26 #[.agg (wtc As At An ns cs nt ct nn cn).toArray, v, .int .i64 tip, .agg (x.map bv).toArray] w fun e w' => e = .returned (.tuple #[.agg (cfc (wDepth ds tip x l).1).toArray, .bool (wDepth ds tip x l).2]) ∧ Below w.heap.size w w' := by
 have hzc := zeros_Cf
 have hzs := zeros_Sn
 obtain ⟨zs, hzz⟩ : ∃ zs, zs = cfc zeroCf := ⟨_, rfl⟩
 have hzl : zs.length = 66 := by rw [hzz]; exact cfc_length zeroCf_ok
 have hzo : zs.all (·.oneCell') = true := by rw [hzz]; exact List.all_eq_true.2 (cfc_one _)
 rw [← hzz] at hzc
 obtain ⟨ys, hyy⟩ : ∃ ys, ys = snc ⟨List.replicate 32 0, List.replicate 32 0, 0⟩ := ⟨_, rfl⟩
 have hyl : ys.length = 65 := by rw [hyy]; rfl
 rw [← hyy] at hzs
 clear hyy
 obtain ⟨R, hR⟩ : ∃ R, R = wDepth ds tip x l := ⟨_, rfl⟩
 rw [← hR]
 obtain ⟨W, hW⟩ : ∃ W, W = ((w.alloc (.cells (wtc As At An ns cs nt ct nn cn).toArray 42)).alloc (.cells (x.map bv).toArray 30)).alloc (.cells zs.toArray 84) := ⟨_, rfl⟩
 obtain ⟨H, hH⟩ : ∃ H, H = w.heap.size := ⟨_, rfl⟩
 have aW : Av W H 42 (wtc As At An ns cs nt ct nn cn) := by rw [hW, hH]; exact Av.alloc (heap_alloc2_old _ _ _) _
 have iW : Av W (H + 1) 30 (x.map bv) := by rw [hW, hH]; exact Av.alloc (heap_alloc2_new _ _ _) _
 have rW : Av W (H + 2) 84 zs := by
  have e : ∀ (v : World) (o : Obj), (v.alloc o).heap.size = v.heap.size + 1 := fun v o => by simp
  have := heap_alloc_new ((w.alloc (.cells (wtc As At An ns cs nt ct nn cn).toArray 42)).alloc (.cells (x.map bv).toArray 30)) (.cells zs.toArray 84)
  rw [e, e] at this
  rw [hW, hH]; exact this
 have bW : Below w.heap.size w W := by rw [hW]; exact (((Below.refl _ _).alloc (Nat.le_refl _) _).alloc (by simp) _).alloc (by simp; omega) _
 have sW : W.heap.size = H + 3 := by rw [hW, hH]; simp
 have c2 := aW.cell 2 (.slice An nn cn) rfl
 have hHs : w.heap.size ≤ H := by rw [hH]; exact Nat.le_refl _
 have x32 := Lib.hid (show (x.map bv).length = 32 by rw [List.length_map, hx])
 have hbd : Hid (∀ (a : Act) (w' : World) d tp pos af, (execOp a.eval ⟨d, .build 84 #[], tp, pos, af, none⟩).run Tryd.prog w' = .ok (.value (.agg zs.toArray)) w') := Lib.hid (fun a w' d tp pos af => by rw [hzz]; kernel_rfl)
 have hzz' := Lib.hid hzz
 clear hzz
 replace hR := Lib.hid hR
 replace hW := Lib.hid hW
 replace hH := Lib.hid hH
 replace sW := Lib.hid sW
 replace hzl := Lib.hid hzl
 replace hzo := Lib.hid hzo
 replace hyl := Lib.hid hyl
 replace hn := Lib.hid hn
 replace hHs := Lib.hid hHs
 go_enter Tryd.func26, Tryd.ntmps26
 go_upto_region 1 with fail
 rw [← hW.out, ← hH.out]
 go_wp2
 clear c2
 go_loopw [16] (fun i wr => ∃ j : Nat, j ≤ nn ∧ i = .int .i64 (j : Int) ∧ Below w.heap.size w wr ∧ Av wr (H + 1) 30 (x.map bv) ∧ Av wr (H + 2) 84 zs ∧ Hid (∀ i, i < j → ∀ z, l[i]? = some z → wLies ds tip x z = false)) (fun i _ => nn - (intOf i).toNat)
 case atStart => exact ⟨0, by omega, rfl, bW, iW, rW, Lib.hid (fun i hi => by omega)⟩
 case round =>
  clear aW iW rW
  obtain ⟨j, hj, rfl, bw, iB, rB, hf⟩ := hrel
  have hH2 : w.heap.size ≤ H + 2 := by have := hHs.out; omega
  by_cases hlt : j < nn
  ·have t2 : decide ((j : Int) < (nn : Int)) = true := by simp; omega
   obtain ⟨s, hs⟩ : ∃ s, l[j]? = some s := ⟨_, List.getElem?_eq_getElem (by rw [hn.out]; exact hlt)⟩
   obtain ⟨b, off, rfl⟩ := hr.adr (by rw [hn.out]; omega)
   obtain ⟨rs, sok⟩ := (hr.below bw).nth j s hs
   have s65 := Lib.hid (snc_length sok)
   have sone := Lib.hid (List.all_eq_true.2 (snc_one s))
   have k1 := Lib.hid (show (s.id.map bv).length = 32 by rw [List.length_map, sok.1])
   have N1 := neqHg s.id x sok.1 hx
   obtain ⟨q, hq⟩ : ∃ q, q = (s.id == x) := ⟨_, rfl⟩
   rw [← hq] at N1
   obtain ⟨C, hC⟩ : ∃ C, C = confM ds tip s := ⟨_, rfl⟩
   have Cok : C.ok := by rw [hC]; exact confM_ok sok
   have HC := fun w' r => WConf v ds ok tip htip s sok w' r
   rw [← hC] at HC
   have C66 := Lib.hid (cfc_length Cok)
   have Cone := Lib.hid (List.all_eq_true.2 (cfc_one C))
   obtain ⟨_, q65⟩ := cfc_at Cok
   have hl : wLies ds tip x s = (q && decide (0 < C.dep)) := by rw [wLies, hq, hC]
   have m0 : 0 ≤ (j : Int) := by omega
   have m1 : (j : Int) < (nn : Int) := by omega
   replace N1 := Lib.hid N1
   replace hq := Lib.hid hq
   replace hs := Lib.hid hs
   replace hC := Lib.hid hC
   replace HC := Lib.hid HC
   replace hl := Lib.hid hl
   replace q65 := Lib.hid q65
   have hnext : wLies ds tip x s = false → Hid (∀ i, i < j + 1 → ∀ z, l[i]? = some z → wLies ds tip x z = false) := fun h0 => Lib.hid (fun i hi z hz => by
    by_cases e : i = j
    ·subst e
     rw [hs.out] at hz
     rw [← Option.some.inj hz]
     exact h0
    ·exact hf.out i (by omega) z hz)
   replace hnext := Lib.hid hnext
   go_upto_region 4 with (first
    | ((with_reducible refine wpList_loadMF 58 (snc s) rs ?_ _ Tryd.underlying58 ?_ ?_ ?_); rfl; rfl; (rw [s65.out]; kernel_rfl))
    | ((with_reducible refine wpList_storeF 58 ((Below.refl wr.heap.size wr).alloc (Nat.le_refl _) _) (heap_alloc_new _ _) (Nat.le_refl _) (snc s) ?_ ?_ 65 ?_ ?_ ?_ ?_ ?_); rfl; rfl; exact s65.out; kernel_rfl; (rw [List.size_toArray]; exact hyl.out); exact sone.out; intro w2 a2 b2 q2 z2; clear q2))
   obtain ⟨G, hG⟩ : ∃ G, G = wr.heap.size := ⟨_, rfl⟩
   rw [← hG] at a2 ⊢
   have bw2 := bw.trans (b2.mono bw.size)
   have i2 := iB.below b2
   have r2 := rB.below b2
   have ri : w2.rangeAt G 0 (s.id.map bv) := rg_sn_id a2.range0
   have v2 := hv.below bw2
   replace hG := Lib.hid hG
   replace z2 := Lib.hid z2
   cases q
   ·have hf2 := hnext.out (by rw [hl.out]; rfl)
    go_wp2_with (first
     | ((with_reducible refine wpList_loadMF 30 (s.id.map bv) ri ?_ _ Tryd.underlying30 ?_ ?_ ?_); rfl; rfl; (rw [k1.out]; kernel_rfl))
     | ((with_reducible refine wpList_loadF 30 i2 ?_ _ 32 x32.out Tryd.underlying30 ?_ ?_ ?_); rfl; rfl; kernel_rfl)
     | ((with_reducible refine wpList_binG (op := .neq) (ty := 30) ?_ ?_ ?_ (N1.out _ _ w2) ?_); rfl; rfl; rfl; simp only [Bool.not_false]))
    refine ⟨⟨j + 1, by omega, by go_num, bw2, i2, r2, hf2⟩, ?_⟩
    simp [intOf]
    omega
   ·go_upto_region 5 with (first
     | ((with_reducible refine wpList_loadMF 30 (s.id.map bv) ri ?_ _ Tryd.underlying30 ?_ ?_ ?_); rfl; rfl; (rw [k1.out]; kernel_rfl))
     | ((with_reducible refine wpList_loadF 30 i2 ?_ _ 32 x32.out Tryd.underlying30 ?_ ?_ ?_); rfl; rfl; kernel_rfl)
     | ((with_reducible refine wpList_binG (op := .neq) (ty := 30) ?_ ?_ ?_ (N1.out _ _ w2) ?_); rfl; rfl; rfl; simp only [Bool.not_true]))
    go_upto_region 6 with (first
     | ((with_reducible refine wpList_loadF 58 a2 ?_ _ 65 s65.out Tryd.underlying58 ?_ ?_ ?_); rfl; rfl; kernel_rfl)
     | (go_at_call 51; refine (HC.out w2 v2).mono ?_; rintro e w3 ⟨rfl, b3⟩)
     | ((with_reducible refine wpList_storeF 84 ((Below.refl w3.heap.size w3).alloc (Nat.le_refl _) _) (heap_alloc_new _ _) (Nat.le_refl _) (cfc C) ?_ ?_ 66 ?_ ?_ ?_ ?_ ?_); rfl; rfl; exact C66.out; kernel_rfl; (rw [List.size_toArray]; exact hzl.out); exact Cone.out; intro w4 a4 b4 q4 z4; clear q4))
    obtain ⟨F, hF⟩ : ∃ F, F = w3.heap.size := ⟨_, rfl⟩
    rw [← hF] at a4 ⊢
    have b34 := b3.trans (b4.mono b3.size)
    have bw4 := bw2.trans (b34.mono bw2.size)
    have i4 := i2.below b34
    have r4 := r2.below b34
    have c65 := a4.cell 65 _ q65.out
    replace hF := Lib.hid hF
    replace z4 := Lib.hid z4
    by_cases hd : 0 < C.dep
    ·have t3 : decide ((0 : Int) < (C.dep : Int)) = true := by simp; omega
     have t4 : decide (0 < C.dep) = true := by simpa using hd
     have eR : R = (C, true) := by
      rw [hR.out, wDepth_yes hs.out (by rw [hl.out, t4]; rfl) hf.out, ← hC.out]
     go_wp2_with (first
      | ((with_reducible refine wpList_loadF 84 a4 ?_ _ 66 C66.out Tryd.underlying84 ?_ ?_ ?_); rfl; rfl; kernel_rfl)
      | ((with_reducible refine wpList_storeFA 84 bw4 r4 hH2 (cfc C) ?_ ?_ 66 C66.out ?_ ?_ ?_ ?_); rfl; rfl; kernel_rfl; exact hzl.out; exact Cone.out; intro w6 a6 b6 k6 z6))
     refine bodyPost_ret (v := .tuple #[.agg (cfc C).toArray, .bool true]) ((results_cellU (C := cfc C) (by rfl) (by rfl) a6 _ Tryd.underlying84 rfl 66 C66.out (by kernel_rfl)).trans (by rfl)) (by rfl) ?_
     exact ⟨by rw [eR], b6⟩
    ·have t3 : decide ((0 : Int) < (C.dep : Int)) = false := by simp; omega
     have t4 : decide (0 < C.dep) = false := by simpa using hd
     have hf2 := hnext.out (by rw [hl.out, t4]; rfl)
     replace hd := Lib.hid hd
     go_wp2
     refine ⟨⟨j + 1, by omega, by go_num, bw4, i4, r4, hf2⟩, ?_⟩
     simp [intOf]
     omega
  ·obtain rfl : j = nn := by omega
   have t2 : decide ((j : Int) < (j : Int)) = false := by simp
   have eR : R = (zeroCf, false) := by rw [hR.out, wDepth_no (by rw [hn.out]; exact hf.out)]
   go_wp2_with (first
    | ((with_reducible refine wpList_buildE (.agg zs.toArray) ?_ ?_); exact hbd.out _ _ _ _ _ _)
    | ((with_reducible refine wpList_storeFA 84 bw rB hH2 zs ?_ ?_ 66 hzl.out ?_ ?_ ?_ ?_); rfl; rfl; kernel_rfl; exact hzl.out; exact hzo.out; intro w6 a6 b6 k6 z6))
   refine bodyPost_ret (v := .tuple #[.agg zs.toArray, .bool false]) ((results_cellU (C := zs) (by rfl) (by rfl) a6 _ Tryd.underlying84 rfl 66 hzl.out (by kernel_rfl)).trans (by rfl)) (by rfl) ?_
   exact ⟨by rw [eR, ← hzz'.out], b6⟩
end Go.Proofs.YtobjgebojhjhnaaDoor
namespace Go.Proofs.YtobjgebojhjhnaaDoor
open Go.RowKit
theorem exec_buildV {P : Program} {t e : TypeId} {size bytes : Nat} (ht : P.underlying t = some (.slice e)) (hi : (P.info? e).map (fun i => (i.size, i.bytes)) = some (size, bytes)) (hz : (P.info? e).map (fun i => (i.zero.map (·.cells.size))) = some (some size)) (h0 : 0 < size) (hb : size ≤ 1000000)
  {o : Oper} {ρ : Operand → Value} (w : World) (cs : List Value) (hc : cs.length = size) (V : Value) (hV : V.cells = cs.toArray) (y : Operand) (ho : o.op = .buildSlice t 1 #[(0, y)]) (hy : ρ y = V) :
  (execOp ρ o).run P w = .ok (.value (.slice (some ⟨w.heap.size, 0, none⟩) 1 1)) (w.alloc (.cells cs.toArray e)) := by
 obtain ⟨i0, hi0, hz0⟩ := Option.map_eq_some_iff.1 hi
 obtain ⟨i1, hi1, hz1⟩ := Option.map_eq_some_iff.1 hz
 obtain rfl : i1 = i0 := by rw [hi0] at hi1; exact (Option.some.inj hi1).symm
 obtain ⟨z, hz2, hz3⟩ := Option.map_eq_some_iff.1 hz1
 injection hz0 with hz4 hz5
 have := run_buildSlice (P := P) w t e 1 #[(0, V)] cs.toArray i1 z ht hi0 hz2 (by rw [hz4]; omega) (by rw [hz4]; omega) (by
  rw [hz4]
  have := Great.fill_whole (s := size) h0 [V] ((Array.range (1 * size)).map (z.cells[· % z.cells.size]!)) (fun v hv => by
   rw [List.mem_singleton.1 hv, hV]; simp [hc]) (by simp)
  simp only [List.zipIdx_cons, List.zipIdx_nil, List.map_cons, List.map_nil, Nat.zero_add] at this
  rw [this]
  simp [hV])
 unfold execOp
 simp only [ho, Sem.run_bind, List.map_toArray, List.map_cons, List.map_nil, hy, this, Result.andThen_ok]
 rfl
theorem relRes_enterW {P : Program} {R : World → World → Prop} {w : World} {ok : VP} {r : Result Next} (f : FuncId) (args : Array Value) (he : r = .ok (.enter f args) w) (h : Calls P f args w fun e w'' => ∃ v, e = .returned v ∧ R w w'' ∧ ok v w'') : relRes P R w ok r := by
 rw [he]
 exact h
theorem _root_.Go.World.ownsRow.lowS {w : World} {b base : Nat} {e : TypeId} {size n : Nat} {v : Value} {xs : List Value} (h : w.ownsRow base e size v n xs) (hb : b ≤ base) : w.ownsRow b e size v n xs := by
 obtain ⟨h1, h2⟩ := h
 refine ⟨h1, h2.imp id ?_⟩
 rintro ⟨g, cap, cur, e1, hg, rest⟩
 exact ⟨g, cap, cur, e1, Nat.le_trans hb hg, rest⟩
def wScript (S : List (List UInt8)) (s : List UInt8) : List (List UInt8) × Nat :=
 if S.contains s then (S, 10) else if 10000 < s.length then (S, 3) else if 256 ≤ S.length then (S, 12) else (S ++ [s], 0)
def OwnC (b : Nat) (s : List UInt8) : VP := fun v w => OwnB w b v s
theorem OwnC.mono {b : Nat} {s : List UInt8} {v : Value} {w w' : World} (h : Ext w w') : OwnC b s v w → OwnC b s v w' := fun o => OwnB.below o h
def SlSl (b : Nat) (s : List UInt8) : VP := fun v w => ∃ k A c, v = .slice (some ⟨k, 0, none⟩) 1 1 ∧ Rd w (some ⟨k, 0, none⟩) [.slice A s.length c] ∧ OwnB w b (.slice A s.length c) s
theorem SlSl.mono {b : Nat} {s : List UInt8} {v : Value} {w w' : World} (h : Ext w w') : SlSl b s v w → SlSl b s v w' := by
 rintro ⟨k, A, c, rfl, h1, h2⟩
 exact ⟨k, A, c, rfl, h1.below h, h2.below h⟩
theorem own_apart {w : World} {b b' : Nat} {e e' : TypeId} {size size' n n' : Nat} {v v' : Value} {xs xs' : List Value} (h : w.ownsRow b e size v n xs) (h' : w.ownsRow b' e' size' v' n' xs') (hne : e ≠ e') : ∀ k, v.ownBlock = some k → v'.ownBlock ≠ some k := by
 intro k hk hk'
 rcases h.2 with ⟨e1, _⟩ | ⟨g, cap, cur, e1, _, hg, _⟩
 ·rw [e1] at hk; cases hk
 ·rcases h'.2 with ⟨e2, _⟩ | ⟨g', cap', cur', e2, _, hg', _⟩
  ·rw [e2] at hk'; cases hk'
  ·rw [e1] at hk
   rw [e2] at hk'
   injection hk with hk
   injection hk' with hk'
   subst hk
   subst hk'
   rw [hg] at hg'
   injection hg' with hg'
   injection hg' with _ h2 _
   exact hne h2
def OwnBs (b n : Nat) (S : List (List UInt8 × Sl)) : VP := fun v w => w.ownsRow b 33 1 v n (bsc S)
theorem OwnBs.mono {b n : Nat} {S : List (List UInt8 × Sl)} {v : Value} {w w' : World} (h : Ext w w') : OwnBs b n S v w → OwnBs b n S v w' := fun o => own_below o h
theorem bsc_own_one (A : Option Addr) (n c : Nat) : ∀ u ∈ [Value.slice A n c], u.oneCell' = true := by
 intro u hu
 rw [List.mem_singleton.1 hu]
 rfl
theorem size_bss : (Tryd.prog.info? 22).map (·.size) = some 1 := by kernel_rfl
theorem wtc_one (As At An : Option Addr) (ns cs nt ct nn cn : Nat) : (wtc As At An ns cs nt ct nn cn).all (·.oneCell') = true := rfl
set_option maxRecDepth 10000 in
set_option maxHeartbeats 4000000 in
theorem WScript_ok (S : List (List UInt8 × Sl)) (As At An : Option Addr) (ns cs nt ct nn cn : Nat) (hS : S.length = ns) (s : List UInt8) (B : Option Addr) (m d : Nat) (hs : s.length = m) (hn : ((S.map (·.1)).contains s) = false) (hm : m ≤ 10000) (hf : ns < 256) (w : World) (rS : RdBss w As S) (rs : Rd w B (s.map bv)) :
  Calls Tryd.prog 19 #[.agg (wtc As At An ns cs nt ct nn cn).toArray, .slice B m d] w fun e w' => ∃ A' c' S', e = .returned (.tuple #[.agg (wtc A' At An (ns + 1) c' nt ct nn cn).toArray, .int .i64 0]) ∧ S'.length = ns + 1 ∧ RdBss w' A' S' ∧ S'.map (·.1) = S.map (·.1) ++ [s] ∧ Below w.heap.size w w' := by
 obtain ⟨W, hW⟩ : ∃ W, W = ((w.alloc (.cells (wtc As At An ns cs nt ct nn cn).toArray 42)).alloc (.cells #[.slice B m d] 33)).alloc (.cells #[.slice none 0 0, .slice none 0 0, .slice none 0 0] 42) := ⟨_, rfl⟩
 obtain ⟨H, hH⟩ : ∃ H, H = w.heap.size := ⟨_, rfl⟩
 have aW : Av W H 42 (wtc As At An ns cs nt ct nn cn) := by rw [hW, hH]; exact Av.alloc (heap_alloc2_old _ _ _) _
 have sW : Av W (H + 1) 33 [.slice B m d] := by rw [hW, hH]; exact Av.alloc (heap_alloc2_new _ _ _) _
 have zW : Av W (H + 2) 42 [.slice none 0 0, .slice none 0 0, .slice none 0 0] := by
  have e : ∀ (v : World) (o : Obj), (v.alloc o).heap.size = v.heap.size + 1 := fun v o => by simp
  have := heap_alloc_new ((w.alloc (.cells (wtc As At An ns cs nt ct nn cn).toArray 42)).alloc (.cells #[.slice B m d] 33)) (.cells #[.slice none 0 0, .slice none 0 0, .slice none 0 0] 42)
  rw [e, e] at this
  rw [hW, hH]; exact this
 have bW : Below w.heap.size w W := by rw [hW]; exact (((Below.refl _ _).alloc (Nat.le_refl _) _).alloc (by simp) _).alloc (by simp; omega) _
 have sz : W.heap.size = H + 3 := by rw [hW, hH]; simp
 have HI := fun w' (r : RdBss w' As S) (q : Rd w' B (s.map bv)) (a : Av w' (H + 1) 33 [.slice B m d]) => ConB S s As ns cs B m d (H + 1) w' r hS (by omega) q hs a
 rw [hn] at HI
 have HC := fun w' (r : RdBss w' As S) => CloneB S As ns cs w' r hS (by omega)
 have HB := fun w' (r : Rd w' B (s.map bv)) => bytes_Clone s B m d w' r hs (by omega)
 have c0 := aW.cell 0 (.slice As ns cs) rfl
 have c1 := sW.cell 0 (.slice B m d) rfl
 have t1 : decide ((10000 : Int) < (m : Int)) = false := by simp; omega
 have t2 : decide ((256 : Int) ≤ (ns : Int)) = false := by simp; omega
 have rSW := rS.below bW
 have rsW := rs.below bW
 replace hW := Lib.hid hW
 replace hH := Lib.hid hH
 replace sz := Lib.hid sz
 replace HI := Lib.hid HI
 replace HC := Lib.hid HC
 replace HB := Lib.hid HB
 replace hS := Lib.hid hS
 replace hs := Lib.hid hs
 replace hn := Lib.hid hn
 go_enter Tryd.func19, Tryd.ntmps19
 go_upto_region 1 with fail
 rw [← hW.out, ← hH.out]
 go_upto_region 7 with (go_at_call 42; refine (HI.out W rSW rsW sW).mono ?_; rintro e w7 ⟨rfl, h7⟩; have h8 := h7.symm; clear h7; subst h8)
 have aW7 := aW
 have sW7 := sW
 have b7' := bW
 refine wp_region_relT 6 [(2, OwnBs W.heap.size ns S), (4, OwnC W.heap.size s), (5, SlSl W.heap.size s)] Ext (by kernel_rfl) (by kernel_rfl) (by kernel_rfl) (by kernel_rfl) (by kernel_rfl) Ext.refl Ext.trans (by intro p hp v w w' hR; simp only [List.mem_cons, List.not_mem_nil, or_false] at hp; rcases hp with rfl | rfl | rfl; exact OwnBs.mono hR; exact OwnC.mono hR; exact SlSl.mono hR) ?_
 refine ZP (c := .pointer (some ⟨H, 0, none⟩)) (fun w _ => by go_simp; first | done | rfl) ?_
 refine ZP (c := .slice As ns cs) (fun w hw => by have := (aW7.below hw.drew).cell 0 _ rfl; go_simp; first | done | rfl) ?_
 refine relWord _ rfl (fun w hw => fill_none rfl (relOp_yes rfl (relRes_enterW 45 #[.slice As ns cs] (by go_simp) ((HC.out w (rS.below (b7'.trans (hw.drew.mono b7'.size)))).mono ?_)))) ?_
 ·rintro e w' ⟨v, rfl, o, b⟩
  exact ⟨v, rfl, b, o.lowS (by have := hw.drew.size; omega)⟩
 refine ZP (c := .slice B m d) (fun w hw => by have := (sW7.below hw.drew).cell 0 _ rfl; go_simp; first | done | rfl) ?_
 refine relWord _ rfl (fun w hw => fill_skip rfl (fill_none rfl (relOp_yes rfl (relRes_enterW 46 #[.slice B m d] (by go_simp) ((HB.out w (rs.below (b7'.trans (hw.drew.mono b7'.size)))).mono ?_))))) ?_
 ·rintro e w' ⟨v, rfl, o, b⟩
  exact ⟨_, rfl, b, o.low (by have := hw.drew.size; omega)⟩
 refine relWord _ rfl (fun w hw => fill_skip rfl (fill_take rfl rfl fun v hv => fill_skip rfl (fill_end (relOp_yes rfl ?_)))) ?_
 ·obtain ⟨A', c', rfl, hc, _⟩ := OwnB.form hv
  rw [exec_buildV Tryd.underlying22 infoBs zeroBs (by decide) (by decide) w [.slice A' s.length c'] rfl (.slice A' s.length c') rfl _ rfl (by rw [eval_evL]; rfl)]
  exact ⟨(Below.refl _ _).alloc (Nat.le_refl _) _, w.heap.size, A', c', rfl, Av.rd (t := 33) (heap_alloc_new _ _), OwnB.below hv ((Below.refl _ _).alloc (Nat.le_refl _) _)⟩
 refine relEnd fun w2 hw2 => fill_take rfl rfl fun v1 hv1 => fill_take rfl rfl fun v2 hv2 => fill_take rfl rfl fun v3 hv3 => fill_end ?_
 clear hv2
 obtain ⟨kq, A2, c2, rfl, q1, q2⟩ := hv3
 have B2 : Below W.heap.size W w2 := hw2.drew
 have hsz := B2.size
 obtain ⟨Av1, cv1, rfl, _⟩ := own_form hv1
 simp only [List.set_cons_succ, List.set_cons_zero, List.drop_succ_cons, List.drop_zero]
 have l1 : ([.slice A2 s.length c2] : List Value).length = 1 * 1 := rfl
 have bo := bsc_own_one A2 s.length c2
 have hno := own_apart q2 hv1 (by decide)
 have hcap' : s.length ≤ c2 := by
  obtain ⟨A', c', e, hc, _⟩ := OwnB.form q2
  injection e with _ _ e3
  rw [e3]; exact hc
 go_upto_region 8 with (first
  | (at_builtin; refine wpList_appE Tryd.underlying22 infoBs zeroBs (by decide) hv1 hsz [.slice A2 s.length c2] 1 1 q1 l1 bo (by omega) (by omega) rfl (.tmp 22) (.tmp 25) rfl rfl rfl ?_; intro v4 w4 o4 g4 _; have B4 := own_app B2 hv1 g4 hsz; have a4 := aW.below B4; obtain ⟨A4, c4, rfl, hc4, _⟩ := own_form o4)
  | (refine wpList_storeS rfl 22 _ _ rfl rfl a4 (Nat.zero_lt_succ _) A4 (ns + 1) c4 rfl size_bss ?_))
 have S5 := a4.set 0 (.slice A4 (ns + 1) c4)
 have z5 := (zW.below B4).other ⟨H, 0, none⟩ (.slice A4 (ns + 1) c4) (by show H + 2 ≠ H; omega)
 have hHw : w.heap.size ≤ H := by rw [hH.out]; exact Nat.le_refl _
 have hH2 : w.heap.size ≤ H + 2 := by omega
 have b5 := (bW.trans (B4.mono bW.size)).setCell (p := ⟨H, 0, none⟩) hHw (.slice A4 (ns + 1) c4)
 have own5 := own_fr o4 (Fr.setCell w4 ⟨H, 0, none⟩ (.slice A4 (ns + 1) c4)) (fun k hk e => by
  have := (World.ownsRow.lt o4 k hk).1
  have := sz.out
  simp only at e
  omega)
 have q5 := own_fr q2 (Fr.of_grown g4) (fun k hk e => hno k hk e.symm)
 have q6 := own_fr q5 (Fr.setCell w4 ⟨H, 0, none⟩ (.slice A4 (ns + 1) c4)) (fun k hk e => by
  have := (World.ownsRow.lt q5 k hk).1
  have := sz.out
  simp only at e
  omega)
 obtain ⟨w5, hw5⟩ : ∃ w5, w5 = w4.setCell ⟨H, 0, none⟩ (.slice A4 (ns + 1) c4) := ⟨_, rfl⟩
 rw [← hw5] at S5 z5 b5 own5 q6 ⊢
 have a5 : Av w5 H 42 (wtc A4 At An (ns + 1) c4 nt ct nn cn) := S5
 have wone := wtc_one A4 At An (ns + 1) c4 nt ct nn cn
 have l3 : (wtc A4 At An (ns + 1) c4 nt ct nn cn).length = 3 := rfl
 replace hw5 := Lib.hid hw5
 clear S5 a4 o4 q2 q5 g4
 go_wp2_with (first
  | ((with_reducible refine wpList_loadF 42 a5 ?_ _ 3 l3 Tryd.underlying42 ?_ ?_ ?_); rfl; rfl; kernel_rfl)
  | ((with_reducible refine wpList_storeFA 42 b5 z5 hH2 (wtc A4 At An (ns + 1) c4 nt ct nn cn) ?_ ?_ 3 l3 ?_ ?_ ?_ ?_); rfl; rfl; kernel_rfl; rfl; exact wone; intro w6 a6 b6 k6 z6))
 refine bodyPost_ret (v := .tuple #[.agg (wtc A4 At An (ns + 1) c4 nt ct nn cn).toArray, .int .i64 0]) ((results_cellU (C := wtc A4 At An (ns + 1) c4 nt ct nn cn) (by rfl) (by rfl) a6 _ Tryd.underlying42 rfl 3 l3 (by kernel_rfl)).trans (by rfl)) (by rfl) ?_
 have own6 := own_fr own5 (S := fun k => k = H + 2) ⟨b6.os.trans b5.os.symm, b6.tape.trans b5.tape.symm, b6.output.trans b5.output.symm, by rw [z6]; exact Nat.le_refl _, fun k _ hk => k6 k hk⟩ (fun k hk e => by
  have := (World.ownsRow.lt own5 k hk).1
  have := sz.out
  omega)
 have q7 := own_fr q6 (S := fun k => k = H + 2) ⟨b6.os.trans b5.os.symm, b6.tape.trans b5.tape.symm, b6.output.trans b5.output.symm, by rw [z6]; exact Nat.le_refl _, fun k _ hk => k6 k hk⟩ (fun k hk e => by
  have := (World.ownsRow.lt q6 k hk).1
  have := sz.out
  omega)
 refine ⟨A4, c4, S ++ [(s, (A2, c2))], rfl, by rw [List.length_append, hS.out]; rfl, ⟨?_, ?_⟩, by simp, b6⟩
 ·have := own_rd own6
  simpa [bsc, slv] using this
 ·intro e he
  rcases List.mem_append.1 he with he | he
  ·exact (rS.below b6).2 e he
  ·rw [List.mem_singleton.1 he]
   exact ⟨OwnB.rd q7, hcap'⟩
set_option maxRecDepth 10000 in
set_option maxHeartbeats 4000000 in
theorem WScript_known (S : List (List UInt8 × Sl)) (As At An : Option Addr) (ns cs nt ct nn cn : Nat) (hS : S.length = ns) (hns : ns ≤ 1000000) (s : List UInt8) (B : Option Addr) (m d : Nat) (hs : s.length = m) (hn : ((S.map (·.1)).contains s) = true) (w : World) (rS : RdBss w As S) (rs : Rd w B (s.map bv)) :
  Calls Tryd.prog 19 #[.agg (wtc As At An ns cs nt ct nn cn).toArray, .slice B m d] w fun e w' => e = .returned (.tuple #[.agg (wtc As At An ns cs nt ct nn cn).toArray, .int .i64 10]) ∧ Below w.heap.size w w' := by
 obtain ⟨W, hW⟩ : ∃ W, W = ((w.alloc (.cells (wtc As At An ns cs nt ct nn cn).toArray 42)).alloc (.cells #[.slice B m d] 33)).alloc (.cells #[.slice none 0 0, .slice none 0 0, .slice none 0 0] 42) := ⟨_, rfl⟩
 obtain ⟨H, hH⟩ : ∃ H, H = w.heap.size := ⟨_, rfl⟩
 have aW : Av W H 42 (wtc As At An ns cs nt ct nn cn) := by rw [hW, hH]; exact Av.alloc (heap_alloc2_old _ _ _) _
 have sW : Av W (H + 1) 33 [.slice B m d] := by rw [hW, hH]; exact Av.alloc (heap_alloc2_new _ _ _) _
 have zW : Av W (H + 2) 42 [.slice none 0 0, .slice none 0 0, .slice none 0 0] := by
  have e : ∀ (v : World) (o : Obj), (v.alloc o).heap.size = v.heap.size + 1 := fun v o => by simp
  have := heap_alloc_new ((w.alloc (.cells (wtc As At An ns cs nt ct nn cn).toArray 42)).alloc (.cells #[.slice B m d] 33)) (.cells #[.slice none 0 0, .slice none 0 0, .slice none 0 0] 42)
  rw [e, e] at this
  rw [hW, hH]; exact this
 have bW : Below w.heap.size w W := by rw [hW]; exact (((Below.refl _ _).alloc (Nat.le_refl _) _).alloc (by simp) _).alloc (by simp; omega) _
 have HI := fun w' (r : RdBss w' As S) (q : Rd w' B (s.map bv)) (a : Av w' (H + 1) 33 [.slice B m d]) => ConB S s As ns cs B m d (H + 1) w' r hS (by omega) q hs a
 rw [hn] at HI
 have c0 := aW.cell 0 (.slice As ns cs) rfl
 have c1 := sW.cell 0 (.slice B m d) rfl
 have rSW := rS.below bW
 have rsW := rs.below bW
 have hH2 : w.heap.size ≤ H + 2 := by omega
 have wone := wtc_one As At An ns cs nt ct nn cn
 have l3 : (wtc As At An ns cs nt ct nn cn).length = 3 := rfl
 replace hW := Lib.hid hW
 replace hH := Lib.hid hH
 replace HI := Lib.hid HI
 replace hS := Lib.hid hS
 replace hs := Lib.hid hs
 replace hn := Lib.hid hn
 go_enter Tryd.func19, Tryd.ntmps19
 go_upto_region 1 with fail
 rw [← hW.out, ← hH.out]
 go_wp2_with (first
  | (go_at_call 42; refine (HI.out W rSW rsW sW).mono ?_; rintro e w7 ⟨rfl, h7⟩; have h8 := h7.symm; clear h7; subst h8)
  | ((with_reducible refine wpList_loadF 42 aW ?_ _ 3 l3 Tryd.underlying42 ?_ ?_ ?_); rfl; rfl; kernel_rfl)
  | ((with_reducible refine wpList_storeFA 42 bW zW hH2 (wtc As At An ns cs nt ct nn cn) ?_ ?_ 3 l3 ?_ ?_ ?_ ?_); rfl; rfl; kernel_rfl; rfl; exact wone; intro w6 a6 b6 k6 z6))
 refine bodyPost_ret (v := .tuple #[.agg (wtc As At An ns cs nt ct nn cn).toArray, .int .i64 10]) ((results_cellU (C := wtc As At An ns cs nt ct nn cn) (by rfl) (by rfl) a6 _ Tryd.underlying42 rfl 3 l3 (by kernel_rfl)).trans (by rfl)) (by rfl) ?_
 exact ⟨rfl, b6⟩
set_option maxRecDepth 10000 in
set_option maxHeartbeats 4000000 in
theorem WScript_big (S : List (List UInt8 × Sl)) (As At An : Option Addr) (ns cs nt ct nn cn : Nat) (hS : S.length = ns) (hns : ns ≤ 1000000) (s : List UInt8) (B : Option Addr) (m d : Nat) (hs : s.length = m) (hn : ((S.map (·.1)).contains s) = false) (hb : 10000 < m) (w : World) (rS : RdBss w As S) (rs : Rd w B (s.map bv)) :
  Calls Tryd.prog 19 #[.agg (wtc As At An ns cs nt ct nn cn).toArray, .slice B m d] w fun e w' => e = .returned (.tuple #[.agg (wtc As At An ns cs nt ct nn cn).toArray, .int .i64 3]) ∧ Below w.heap.size w w' := by
 obtain ⟨W, hW⟩ : ∃ W, W = ((w.alloc (.cells (wtc As At An ns cs nt ct nn cn).toArray 42)).alloc (.cells #[.slice B m d] 33)).alloc (.cells #[.slice none 0 0, .slice none 0 0, .slice none 0 0] 42) := ⟨_, rfl⟩
 obtain ⟨H, hH⟩ : ∃ H, H = w.heap.size := ⟨_, rfl⟩
 have aW : Av W H 42 (wtc As At An ns cs nt ct nn cn) := by rw [hW, hH]; exact Av.alloc (heap_alloc2_old _ _ _) _
 have sW : Av W (H + 1) 33 [.slice B m d] := by rw [hW, hH]; exact Av.alloc (heap_alloc2_new _ _ _) _
 have zW : Av W (H + 2) 42 [.slice none 0 0, .slice none 0 0, .slice none 0 0] := by
  have e : ∀ (v : World) (o : Obj), (v.alloc o).heap.size = v.heap.size + 1 := fun v o => by simp
  have := heap_alloc_new ((w.alloc (.cells (wtc As At An ns cs nt ct nn cn).toArray 42)).alloc (.cells #[.slice B m d] 33)) (.cells #[.slice none 0 0, .slice none 0 0, .slice none 0 0] 42)
  rw [e, e] at this
  rw [hW, hH]; exact this
 have bW : Below w.heap.size w W := by rw [hW]; exact (((Below.refl _ _).alloc (Nat.le_refl _) _).alloc (by simp) _).alloc (by simp; omega) _
 have HI := fun w' (r : RdBss w' As S) (q : Rd w' B (s.map bv)) (a : Av w' (H + 1) 33 [.slice B m d]) => ConB S s As ns cs B m d (H + 1) w' r hS (by omega) q hs a
 rw [hn] at HI
 have c0 := aW.cell 0 (.slice As ns cs) rfl
 have c1 := sW.cell 0 (.slice B m d) rfl
 have t1 : decide ((10000 : Int) < (m : Int)) = true := by simp; omega
 have rSW := rS.below bW
 have rsW := rs.below bW
 have hH2 : w.heap.size ≤ H + 2 := by omega
 have wone := wtc_one As At An ns cs nt ct nn cn
 have l3 : (wtc As At An ns cs nt ct nn cn).length = 3 := rfl
 replace hW := Lib.hid hW
 replace hH := Lib.hid hH
 replace HI := Lib.hid HI
 replace hS := Lib.hid hS
 replace hs := Lib.hid hs
 replace hn := Lib.hid hn
 go_enter Tryd.func19, Tryd.ntmps19
 go_upto_region 1 with fail
 rw [← hW.out, ← hH.out]
 go_wp2_with (first
  | (go_at_call 42; refine (HI.out W rSW rsW sW).mono ?_; rintro e w7 ⟨rfl, h7⟩; have h8 := h7.symm; clear h7; subst h8)
  | ((with_reducible refine wpList_loadF 42 aW ?_ _ 3 l3 Tryd.underlying42 ?_ ?_ ?_); rfl; rfl; kernel_rfl)
  | ((with_reducible refine wpList_storeFA 42 bW zW hH2 (wtc As At An ns cs nt ct nn cn) ?_ ?_ 3 l3 ?_ ?_ ?_ ?_); rfl; rfl; kernel_rfl; rfl; exact wone; intro w6 a6 b6 k6 z6))
 refine bodyPost_ret (v := .tuple #[.agg (wtc As At An ns cs nt ct nn cn).toArray, .int .i64 3]) ((results_cellU (C := wtc As At An ns cs nt ct nn cn) (by rfl) (by rfl) a6 _ Tryd.underlying42 rfl 3 l3 (by kernel_rfl)).trans (by rfl)) (by rfl) ?_
 exact ⟨rfl, b6⟩
set_option maxRecDepth 10000 in
set_option maxHeartbeats 4000000 in
theorem WScript_full (S : List (List UInt8 × Sl)) (As At An : Option Addr) (ns cs nt ct nn cn : Nat) (hS : S.length = ns) (hns : ns ≤ 1000000) (s : List UInt8) (B : Option Addr) (m d : Nat) (hs : s.length = m) (hn : ((S.map (·.1)).contains s) = false) (hb : ¬ 10000 < m) (hf : 256 ≤ ns) (w : World) (rS : RdBss w As S) (rs : Rd w B (s.map bv)) :
  Calls Tryd.prog 19 #[.agg (wtc As At An ns cs nt ct nn cn).toArray, .slice B m d] w fun e w' => e = .returned (.tuple #[.agg (wtc As At An ns cs nt ct nn cn).toArray, .int .i64 12]) ∧ Below w.heap.size w w' := by
 obtain ⟨W, hW⟩ : ∃ W, W = ((w.alloc (.cells (wtc As At An ns cs nt ct nn cn).toArray 42)).alloc (.cells #[.slice B m d] 33)).alloc (.cells #[.slice none 0 0, .slice none 0 0, .slice none 0 0] 42) := ⟨_, rfl⟩
 obtain ⟨H, hH⟩ : ∃ H, H = w.heap.size := ⟨_, rfl⟩
 have aW : Av W H 42 (wtc As At An ns cs nt ct nn cn) := by rw [hW, hH]; exact Av.alloc (heap_alloc2_old _ _ _) _
 have sW : Av W (H + 1) 33 [.slice B m d] := by rw [hW, hH]; exact Av.alloc (heap_alloc2_new _ _ _) _
 have zW : Av W (H + 2) 42 [.slice none 0 0, .slice none 0 0, .slice none 0 0] := by
  have e : ∀ (v : World) (o : Obj), (v.alloc o).heap.size = v.heap.size + 1 := fun v o => by simp
  have := heap_alloc_new ((w.alloc (.cells (wtc As At An ns cs nt ct nn cn).toArray 42)).alloc (.cells #[.slice B m d] 33)) (.cells #[.slice none 0 0, .slice none 0 0, .slice none 0 0] 42)
  rw [e, e] at this
  rw [hW, hH]; exact this
 have bW : Below w.heap.size w W := by rw [hW]; exact (((Below.refl _ _).alloc (Nat.le_refl _) _).alloc (by simp) _).alloc (by simp; omega) _
 have HI := fun w' (r : RdBss w' As S) (q : Rd w' B (s.map bv)) (a : Av w' (H + 1) 33 [.slice B m d]) => ConB S s As ns cs B m d (H + 1) w' r hS (by omega) q hs a
 rw [hn] at HI
 have c0 := aW.cell 0 (.slice As ns cs) rfl
 have c1 := sW.cell 0 (.slice B m d) rfl
 have t1 : decide ((10000 : Int) < (m : Int)) = false := by simp; omega
 have t2 : decide ((256 : Int) ≤ (ns : Int)) = true := by simp; omega
 have rSW := rS.below bW
 have rsW := rs.below bW
 have hH2 : w.heap.size ≤ H + 2 := by omega
 have wone := wtc_one As At An ns cs nt ct nn cn
 have l3 : (wtc As At An ns cs nt ct nn cn).length = 3 := rfl
 replace hW := Lib.hid hW
 replace hH := Lib.hid hH
 replace HI := Lib.hid HI
 replace hS := Lib.hid hS
 replace hs := Lib.hid hs
 replace hn := Lib.hid hn
 go_enter Tryd.func19, Tryd.ntmps19
 go_upto_region 1 with fail
 rw [← hW.out, ← hH.out]
 go_wp2_with (first
  | (go_at_call 42; refine (HI.out W rSW rsW sW).mono ?_; rintro e w7 ⟨rfl, h7⟩; have h8 := h7.symm; clear h7; subst h8)
  | ((with_reducible refine wpList_loadF 42 aW ?_ _ 3 l3 Tryd.underlying42 ?_ ?_ ?_); rfl; rfl; kernel_rfl)
  | ((with_reducible refine wpList_storeFA 42 bW zW hH2 (wtc As At An ns cs nt ct nn cn) ?_ ?_ 3 l3 ?_ ?_ ?_ ?_); rfl; rfl; kernel_rfl; rfl; exact wone; intro w6 a6 b6 k6 z6))
 refine bodyPost_ret (v := .tuple #[.agg (wtc As At An ns cs nt ct nn cn).toArray, .int .i64 12]) ((results_cellU (C := wtc As At An ns cs nt ct nn cn) (by rfl) (by rfl) a6 _ Tryd.underlying42 rfl 3 l3 (by kernel_rfl)).trans (by rfl)) (by rfl) ?_
 exact ⟨rfl, b6⟩
theorem WScript (S : List (List UInt8 × Sl)) (As At An : Option Addr) (ns cs nt ct nn cn : Nat) (hS : S.length = ns) (hns : ns ≤ 1000000) (s : List UInt8) (B : Option Addr) (m d : Nat) (hs : s.length = m) (w : World) (rS : RdBss w As S) (rs : Rd w B (s.map bv)) :
  Calls Tryd.prog 19 #[.agg (wtc As At An ns cs nt ct nn cn).toArray, .slice B m d] w fun e w' => ∃ A' n' c' S', e = .returned (.tuple #[.agg (wtc A' At An n' c' nt ct nn cn).toArray, .int .i64 ((wScript (S.map (·.1)) s).2 : Int)]) ∧ S'.length = n' ∧ RdBss w' A' S' ∧ S'.map (·.1) = (wScript (S.map (·.1)) s).1 ∧ Below w.heap.size w w' := by
 unfold wScript
 cases hn : (S.map (·.1)).contains s with
 | true =>
  rw [if_pos rfl]
  exact (WScript_known S As At An ns cs nt ct nn cn hS hns s B m d hs hn w rS rs).mono fun e w' ⟨h1, h2⟩ => ⟨As, ns, cs, S, h1, hS, rS.below h2, rfl, h2⟩
 | false =>
  rw [if_neg (by decide)]
  by_cases hb : 10000 < s.length
  ·rw [if_pos hb]
   exact (WScript_big S As At An ns cs nt ct nn cn hS hns s B m d hs hn (by omega) w rS rs).mono fun e w' ⟨h1, h2⟩ => ⟨As, ns, cs, S, h1, hS, rS.below h2, rfl, h2⟩
  ·rw [if_neg hb]
   by_cases hf : 256 ≤ (S.map (·.1)).length
   ·rw [if_pos hf]
    rw [List.length_map] at hf
    exact (WScript_full S As At An ns cs nt ct nn cn hS hns s B m d hs hn (by omega) (by omega) w rS rs).mono fun e w' ⟨h1, h2⟩ => ⟨As, ns, cs, S, h1, hS, rS.below h2, rfl, h2⟩
   ·rw [if_neg hf]
    rw [List.length_map] at hf
    exact (WScript_ok S As At An ns cs nt ct nn cn hS s B m d hs hn (by omega) (by omega) w rS rs).mono fun e w' ⟨A', c', S', h1, h2, h3, h4, h5⟩ => ⟨A', ns + 1, c', S', h1, h2, h3, h4, h5⟩
end Go.Proofs.YtobjgebojhjhnaaDoor
