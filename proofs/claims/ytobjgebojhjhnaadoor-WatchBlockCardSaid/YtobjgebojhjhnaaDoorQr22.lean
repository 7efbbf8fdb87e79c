import Derived.Test.YtobjgebojhjhnaaDoorKo
import Derived.Test.YtobjgebojhjhnaaDoorQr19
namespace Go.Proofs.YtobjgebojhjhnaaDoor
open Go.RowKit
def blc (h : Hd) (tot : Nat) (Ah : Option Addr) (nh ch : Nat) (Af : Option Addr) (nf cf : Nat) : List Value := hdc h ++ [.int .u32 (tot : Int), .slice Ah nh ch, .slice Af nf cf]
section
variable {h : Hd} {tot : Nat} {Ah : Option Addr} {nh ch : Nat} {Af : Option Addr} {nf cf : Nat}
theorem blc_at (k : h.ok) : (blc h tot Ah nh ch Af nf cf)[68]? = some (.int .u32 (tot : Int)) ∧ (blc h tot Ah nh ch Af nf cf)[69]? = some (.slice Ah nh ch) ∧ (blc h tot Ah nh ch Af nf cf)[70]? = some (.slice Af nf cf) := by
 have l := hdc_length k
 unfold blc
 refine ⟨?_, ?_, ?_⟩ <;>
 ·rw [List.getElem?_append_right (by omega), l]
  rfl
theorem blc_head {w : World} {g : Nat} {t : TypeId} (a : Av w g t (blc h tot Ah nh ch Af nf cf)) : w.rangeAt g 0 (hdc h) :=
 Av.rangeAt (pre := []) (rest := [.int .u32 (tot : Int), .slice Ah nh ch, .slice Af nf cf]) (by simpa [blc] using a) 0 rfl
theorem blc_root (k : h.ok) {w : World} {g : Nat} {t : TypeId} (a : Av w g t (blc h tot Ah nh ch Af nf cf)) : w.rangeAt g 33 (h.root.map bv) :=
 Av.rangeAt (pre := [.int .u32 (h.ver : Int)] ++ h.prev.map bv) (rest := [.int .u32 (h.time : Int), .int .u32 (h.bits : Int), .int .u32 (h.nonce : Int), .int .u32 (tot : Int), .slice Ah nh ch, .slice Af nf cf]) (by simpa [blc, hdc] using a) 33 (by simp [k.2.1])
end
theorem results_cellUU {fn : Func} {p u v : Tmp} {ty : TypeId} (h : fn.results = #[.cell p ty, .tmp u, .tmp v]) {tmps : Array Value} {P : Program} {w : World} {g : Nat} {t : TypeId} {C : List Value} (hp : tmps.getD p undef = .pointer (some ⟨g, 0, none⟩)) (ha : Av w g t C) (d : TypeDesc) (hu : P.underlying ty = some d) (hd : d.isRow = true)
  (n : Nat) (hn : C.length = n) (hi : (P.info? ty).map (·.size) = some n) :
  (results fn tmps).run P w = .ok (.tuple #[.agg C.toArray, tmps.getD u undef, tmps.getD v undef]) w := by
 unfold results
 simp only [h]
 have hl := run_loadVar_row w g t ty _ _ d ha hu (by cases d <;> first | rfl | (simp [TypeDesc.isRow] at hd)) (by rw [List.size_toArray, hn]; exact hi)
 rw [Array.getD_eq_getD_getElem?] at hp
 simp [hp, asAddr, hl]
theorem wpList_loadMH {P : Program} (ty : TypeId) {w : World} {b off : Nat} (cs : List Value) (hc : w.rangeAt b off cs) {ops : Array Oper} {rest : List Oper} {a : Act} {Q : Exit → Act → World → Prop} {d tp pos af gu} {x : Operand}
  (hw : Region.wanted ⟨d, .load ty x, tp, pos, af, gu⟩ (yielded ops a.tmps) = true) (hx : a.eval x = .pointer (some ⟨b, off, none⟩)) (dd : TypeDesc) (hu : P.underlying ty = some dd) (hd : dd.isRow = true) (hi : (P.info? ty).map (·.size) = some cs.length)
  (k : wpList P ops Q rest (a.put d (.agg cs.toArray)) w) : wpList P ops Q (⟨d, .load ty x, tp, pos, af, gu⟩ :: rest) a w :=
 wpList_execW hw (exec_load_mid ty x rfl b off hx cs dd hc hu hd hi) k
theorem pt_built (tot : Nat) (Ah : Option Addr) (nh ch : Nat) (Af : Option Addr) (nf cf : Nat) : Tryd.prog.built 53 [(0, .int .u32 (tot : Int)), (1, .slice Ah nh ch), (2, .slice Af nf cf)] = some (trc tot Ah nh ch Af nf cf).toArray := by
 kernel_rfl
theorem trc_one (tot : Nat) (Ah : Option Addr) (nh ch : Nat) (Af : Option Addr) (nf cf : Nat) : (trc tot Ah nh ch Af nf cf).all (·.oneCell') = true := rfl
theorem trc_len (tot : Nat) (Ah : Option Addr) (nh ch : Nat) (Af : Option Addr) (nf cf : Nat) : (trc tot Ah nh ch Af nf cf).length = 3 := rfl
theorem sn_places : (match Tryd.prog.underlying 58 with | some (.struct fs) => fs.toList.mapM (fun f => (Tryd.prog.info? f.type).map fun i => (f.offset, i.size)) | _ => none) = some [(0, 32), (32, 32), (64, 1)] := by kernel_rfl
theorem sn_zero : (Tryd.prog.info? 58).map (·.zero) = some (some (.agg (snc ⟨List.replicate 32 0, List.replicate 32 0, 0⟩).toArray)) := by kernel_rfl
set_option maxRecDepth 10000 in
theorem sn_built (x y : List UInt8) (p : Int) (hx : x.length = 32) (hy : y.length = 32) : Tryd.prog.built 58 [(0, .agg (hcs x)), (1, .agg (hcs y)), (2, .int .i64 p)] = some (snc ⟨x, y, p⟩).toArray := by
 have hp := sn_places
 rw [Tryd.underlying58] at hp
 rw [built_struct Tryd.underlying58 sn_zero hp]
 have z32 : ((List.replicate 32 (0 : UInt8)).map bv).length = 32 := rfl
 show Instr.fill _ (([] ++ ((List.replicate 32 (0 : UInt8)).map bv ++ ((List.replicate 32 (0 : UInt8)).map bv ++ [Value.int .i64 0]))) : List Value).toArray _ = some (x.map bv ++ (y.map bv ++ [Value.int .i64 p])).toArray
 generalize (List.replicate 32 (0 : UInt8)).map bv = Z at *
 refine Eq.trans (fill_step [] Z (x.map bv) _ (off := 0) (size := 32) rfl rfl (by simpa using hx) rfl z32) ?_
 rw [show ([] ++ (x.map bv ++ (Z ++ [Value.int .i64 0])) : List Value) = x.map bv ++ (Z ++ [Value.int .i64 0]) from rfl]
 refine Eq.trans (fill_step (x.map bv) Z (y.map bv) _ (off := 32) (size := 32) rfl rfl (by simpa using hy) (by simpa using hx) z32) ?_
 rw [show (x.map bv ++ (y.map bv ++ [Value.int .i64 0]) : List Value) = (x.map bv ++ y.map bv) ++ ([Value.int .i64 0] ++ []) by simp]
 refine Eq.trans (fill_step (x.map bv ++ y.map bv) [Value.int .i64 0] [Value.int .i64 p] _ (off := 64) (size := 1) rfl rfl rfl (by simp [hx, hy]) rfl) ?_
 simp [Instr.fill]
set_option maxRecDepth 10000 in
set_option maxHeartbeats 8000000 in
theorem WProve_orphan (As At An : Option Addr) (ns cs nt ct nn cn : Nat) (T : List (List UInt8)) (_ : T.length = nt) (_ : nt ≤ 90000) (N : List Sn) (_ : N.length = nn) (_ : nn ≤ 90000) (v : Value) (ds : List Nd) (h : Hd) (hok : h.ok) (tot : Nat) (_ : tot < 4294967296) (hs : List (List UInt8)) (_ : All32 hs) (fl : List UInt8) (Ah : Option Addr) (nh ch : Nat) (Af : Option Addr) (nf cf : Nat) (_ : hs.length = nh) (_ : fl.length = nf) (_ : nf ≤ 10000) (_ : nh ≤ 10000) (hf : tFind ds (hdId h) = none) (w : World) (ht : Tabs w) (hv : TRef w v ds) (_ : RdHs w At T) (_ : RdSns w An N) (_ : Rd w Ah (hcl hs)) (_ : Rd w Af (fl.map bv)) :
  Calls Tryd.prog 12 #[.agg (wtc As At An ns cs nt ct nn cn).toArray, v, .agg (blc h tot Ah nh ch Af nf cf).toArray] w fun e w' => e = .returned (.tuple #[.agg (wtc As At An ns cs nt ct nn cn).toArray, .int .i64 0, .int .i64 9]) ∧ Below w.heap.size w w' := by
 obtain ⟨W, hW⟩ : ∃ W, W = ((w.alloc (.cells (wtc As At An ns cs nt ct nn cn).toArray 42)).alloc (.cells (blc h tot Ah nh ch Af nf cf).toArray 47)).alloc (.cells #[.slice none 0 0, .slice none 0 0, .slice none 0 0] 42) := ⟨_, rfl⟩
 obtain ⟨H, hH⟩ : ∃ H, H = w.heap.size := ⟨_, rfl⟩
 have aW : Av W H 42 (wtc As At An ns cs nt ct nn cn) := by rw [hW, hH]; exact Av.alloc (heap_alloc2_old _ _ _) _
 have xW : Av W (H + 1) 47 (blc h tot Ah nh ch Af nf cf) := by rw [hW, hH]; exact Av.alloc (heap_alloc2_new _ _ _) _
 have zW : Av W (H + 2) 42 [.slice none 0 0, .slice none 0 0, .slice none 0 0] := by
  have e : ∀ (v : World) (o : Obj), (v.alloc o).heap.size = v.heap.size + 1 := fun v o => by simp
  have := heap_alloc_new ((w.alloc (.cells (wtc As At An ns cs nt ct nn cn).toArray 42)).alloc (.cells (blc h tot Ah nh ch Af nf cf).toArray 47)) (.cells #[.slice none 0 0, .slice none 0 0, .slice none 0 0] 42)
  rw [e, e] at this
  rw [hW, hH]; exact this
 have bW : Below w.heap.size w W := by rw [hW]; exact (((Below.refl _ _).alloc (Nat.le_refl _) _).alloc (by simp) _).alloc (by simp; omega) _
 have sz : W.heap.size = H + 3 := by rw [hW, hH]; simp
 have HI := fun w' t => HdId h hok w' t
 obtain ⟨I, hI⟩ : ∃ I, I = hdId h := ⟨_, rfl⟩
 have I32 : I.length = 32 := by rw [hI]; exact hdId_length h
 have HF := fun w' r => TFind v ds (hdId h) (hdId_length h) w' r
 rw [← hI] at HI HF hf
 have k32 := Lib.hid (show (I.map bv).length = 32 by rw [List.length_map, I32])
 have ione := Lib.hid (show (I.map bv).all (·.oneCell') = true by rw [List.all_eq_true]; exact bv_one I)
 have rhd : W.rangeAt (H + 1) 0 (hdc h) := blc_head xW
 have h68 := Lib.hid (hdc_length hok)
 have wone := wtc_one As At An ns cs nt ct nn cn
 have l3 : (wtc As At An ns cs nt ct nn cn).length = 3 := rfl
 have hHw : w.heap.size ≤ H := by rw [hH]; exact Nat.le_refl _
 have hH2 : w.heap.size ≤ H + 2 := by omega
 have htW := ht.below bW
 have hvW := hv.below bW
 rw [hf] at HF
 replace hW := Lib.hid hW
 replace hH := Lib.hid hH
 replace sz := Lib.hid sz
 replace HI := Lib.hid HI
 replace HF := Lib.hid HF
 replace hI := Lib.hid hI
 replace I32 := Lib.hid I32
 replace hf := Lib.hid hf
 go_enter Tryd.func12, Tryd.ntmps12
 go_upto_region 1 with fail
 rw [← hW.out, ← hH.out]
 go_upto_region 2 with (first
  | ((with_reducible refine wpList_loadMF 32 (hdc h) rhd ?_ _ Tryd.underlying32 ?_ ?_ ?_); rfl; rfl; (rw [h68.out]; kernel_rfl))
  | (go_at_call 17; refine (HI.out W htW).mono ?_; rintro e w1 ⟨rfl, b1⟩)
  | ((with_reducible refine wpList_storeF 30 ((Below.refl w1.heap.size w1).alloc (Nat.le_refl _) _) (heap_alloc_new _ _) (Nat.le_refl _) (I.map bv) ?_ ?_ 32 k32.out ?_ ?_ ?_ ?_); rfl; rfl; kernel_rfl; (first | rfl | simp); exact ione.out; intro w2 i2 b2 z2; clear z2; intro z2; replace z2 := Lib.hid z2))
 obtain ⟨G, hG⟩ : ∃ G, G = w1.heap.size := ⟨_, rfl⟩
 rw [← hG] at i2 ⊢
 have b12 := b1.trans (b2.mono b1.size)
 have B2 := bW.trans (b12.mono bW.size)
 have a2 := aW.below b12
 have x2 := xW.below b12
 have q2 := zW.below b12
 have v2 := hvW.below b12
 have hGs : H + 3 ≤ G := by have := b1.size; have := sz.out; omega
 replace hG := Lib.hid hG
 clear b1 b2 b12
 go_upto_region 3 with (first
  | ((with_reducible refine wpList_loadF 30 i2 ?_ _ 32 k32.out Tryd.underlying30 ?_ ?_ ?_); rfl; rfl; kernel_rfl)
  | (go_at_call 16; refine (HF.out w2 v2).mono ?_; rintro e w3 ⟨rfl, b3⟩))
 have B3 := B2.trans (b3.mono B2.size)
 have a3 := a2.below b3
 have x3 := x2.below b3
 have q3 := q2.below b3
 have i3 := i2.below b3
 clear b3
 go_wp2_with (first
  | ((with_reducible refine wpList_loadF 42 a3 ?_ _ 3 l3 Tryd.underlying42 ?_ ?_ ?_); rfl; rfl; kernel_rfl)
  | ((with_reducible refine wpList_storeFA 42 B3 q3 hH2 (wtc As At An ns cs nt ct nn cn) ?_ ?_ 3 l3 ?_ ?_ ?_ ?_); rfl; rfl; kernel_rfl; rfl; exact wone; intro w9 a9 b9 k9 z9))
 refine bodyPost_ret (v := .tuple #[.agg (wtc As At An ns cs nt ct nn cn).toArray, .int .i64 0, .int .i64 9]) ((results_cellUU (C := wtc As At An ns cs nt ct nn cn) (by rfl) (by rfl) a9 _ Tryd.underlying42 rfl 3 l3 (by kernel_rfl)).trans (by rfl)) (by rfl) ?_
 exact ⟨rfl, b9⟩
set_option maxRecDepth 10000 in
set_option maxHeartbeats 8000000 in
theorem WProve_part (As At An : Option Addr) (ns cs nt ct nn cn : Nat) (T : List (List UInt8)) (_ : T.length = nt) (_ : nt ≤ 90000) (N : List Sn) (_ : N.length = nn) (_ : nn ≤ 90000) (v : Value) (ds : List Nd) (h : Hd) (hok : h.ok) (tot : Nat) (htot : tot < 4294967296) (hs : List (List UInt8)) (h32 : All32 hs) (fl : List UInt8) (Ah : Option Addr) (nh ch : Nat) (Af : Option Addr) (nf cf : Nat) (hnh : hs.length = nh) (hnf : fl.length = nf) (hnf2 : nf ≤ 10000) (hnh2 : nh ≤ 10000) (hf : (tFind ds (hdId h)).isSome = true) (hx : pExt tot hs fl = none) (w : World) (ht : Tabs w) (hv : TRef w v ds) (_ : RdHs w At T) (_ : RdSns w An N) (rh : Rd w Ah (hcl hs)) (rf : Rd w Af (fl.map bv)) :
  Calls Tryd.prog 12 #[.agg (wtc As At An ns cs nt ct nn cn).toArray, v, .agg (blc h tot Ah nh ch Af nf cf).toArray] w fun e w' => e = .returned (.tuple #[.agg (wtc As At An ns cs nt ct nn cn).toArray, .int .i64 0, .int .i64 13]) ∧ Below w.heap.size w w' := by
 obtain ⟨qf, hqf⟩ : ∃ k, tFind ds (hdId h) = some k := Option.isSome_iff_exists.1 hf
 have HE := fun w' r1 r2 t => PExt fl hs h32 tot Ah nh ch Af nf cf hnh hnf htot hnf2 hnh2 w' r1 r2 t
 obtain ⟨d68, d69, d70⟩ := blc_at (h := h) (tot := tot) (Ah := Ah) (nh := nh) (ch := ch) (Af := Af) (nf := nf) (cf := cf) hok
 have hbt := Lib.hid (pt_built tot Ah nh ch Af nf cf)
 have pone := trc_one tot Ah nh ch Af nf cf
 have pl3 := trc_len tot Ah nh ch Af nf cf
 obtain ⟨W, hW⟩ : ∃ W, W = ((w.alloc (.cells (wtc As At An ns cs nt ct nn cn).toArray 42)).alloc (.cells (blc h tot Ah nh ch Af nf cf).toArray 47)).alloc (.cells #[.slice none 0 0, .slice none 0 0, .slice none 0 0] 42) := ⟨_, rfl⟩
 obtain ⟨H, hH⟩ : ∃ H, H = w.heap.size := ⟨_, rfl⟩
 have aW : Av W H 42 (wtc As At An ns cs nt ct nn cn) := by rw [hW, hH]; exact Av.alloc (heap_alloc2_old _ _ _) _
 have xW : Av W (H + 1) 47 (blc h tot Ah nh ch Af nf cf) := by rw [hW, hH]; exact Av.alloc (heap_alloc2_new _ _ _) _
 have zW : Av W (H + 2) 42 [.slice none 0 0, .slice none 0 0, .slice none 0 0] := by
  have e : ∀ (v : World) (o : Obj), (v.alloc o).heap.size = v.heap.size + 1 := fun v o => by simp
  have := heap_alloc_new ((w.alloc (.cells (wtc As At An ns cs nt ct nn cn).toArray 42)).alloc (.cells (blc h tot Ah nh ch Af nf cf).toArray 47)) (.cells #[.slice none 0 0, .slice none 0 0, .slice none 0 0] 42)
  rw [e, e] at this
  rw [hW, hH]; exact this
 have bW : Below w.heap.size w W := by rw [hW]; exact (((Below.refl _ _).alloc (Nat.le_refl _) _).alloc (by simp) _).alloc (by simp; omega) _
 have sz : W.heap.size = H + 3 := by rw [hW, hH]; simp
 have HI := fun w' t => HdId h hok w' t
 obtain ⟨I, hI⟩ : ∃ I, I = hdId h := ⟨_, rfl⟩
 have I32 : I.length = 32 := by rw [hI]; exact hdId_length h
 have HF := fun w' r => TFind v ds (hdId h) (hdId_length h) w' r
 rw [← hI] at HI HF hqf
 have k32 := Lib.hid (show (I.map bv).length = 32 by rw [List.length_map, I32])
 have ione := Lib.hid (show (I.map bv).all (·.oneCell') = true by rw [List.all_eq_true]; exact bv_one I)
 have rhd : W.rangeAt (H + 1) 0 (hdc h) := blc_head xW
 have h68 := Lib.hid (hdc_length hok)
 have wone := wtc_one As At An ns cs nt ct nn cn
 have l3 : (wtc As At An ns cs nt ct nn cn).length = 3 := rfl
 have hHw : w.heap.size ≤ H := by rw [hH]; exact Nat.le_refl _
 have hH2 : w.heap.size ≤ H + 2 := by omega
 have htW := ht.below bW
 have hvW := hv.below bW
 rw [hqf] at HF
 rw [hx] at HE
 obtain ⟨R, hR⟩ : ∃ R, R = zs32 := ⟨_, rfl⟩
 have r32 := Lib.hid (show (R.map bv).length = 32 by rw [hR]; rfl)
 have rone := Lib.hid (show (R.map bv).all (·.oneCell') = true by rw [List.all_eq_true]; exact bv_one R)
 unfold ExtPost at HE
 rw [← hR] at HE
 replace hW := Lib.hid hW
 replace hH := Lib.hid hH
 replace sz := Lib.hid sz
 replace HI := Lib.hid HI
 replace HF := Lib.hid HF
 replace HE := Lib.hid HE
 replace hI := Lib.hid hI
 replace I32 := Lib.hid I32
 replace hf := Lib.hid hf
 replace hqf := Lib.hid hqf
 replace hx := Lib.hid hx
 replace d68 := Lib.hid d68
 replace d69 := Lib.hid d69
 replace d70 := Lib.hid d70
 replace hR := Lib.hid hR
 go_enter Tryd.func12, Tryd.ntmps12
 go_upto_region 1 with fail
 rw [← hW.out, ← hH.out]
 go_upto_region 2 with (first
  | ((with_reducible refine wpList_loadMF 32 (hdc h) rhd ?_ _ Tryd.underlying32 ?_ ?_ ?_); rfl; rfl; (rw [h68.out]; kernel_rfl))
  | (go_at_call 17; refine (HI.out W htW).mono ?_; rintro e w1 ⟨rfl, b1⟩)
  | ((with_reducible refine wpList_storeF 30 ((Below.refl w1.heap.size w1).alloc (Nat.le_refl _) _) (heap_alloc_new _ _) (Nat.le_refl _) (I.map bv) ?_ ?_ 32 k32.out ?_ ?_ ?_ ?_); rfl; rfl; kernel_rfl; (first | rfl | simp); exact ione.out; intro w2 i2 b2 z2; clear z2; intro z2; replace z2 := Lib.hid z2))
 obtain ⟨G, hG⟩ : ∃ G, G = w1.heap.size := ⟨_, rfl⟩
 rw [← hG] at i2 ⊢
 have b12 := b1.trans (b2.mono b1.size)
 have B2 := bW.trans (b12.mono bW.size)
 have a2 := aW.below b12
 have x2 := xW.below b12
 have q2 := zW.below b12
 have v2 := hvW.below b12
 have hGs : H + 3 ≤ G := by have := b1.size; have := sz.out; omega
 replace hG := Lib.hid hG
 clear b1 b2 b12
 go_upto_region 3 with (first
  | ((with_reducible refine wpList_loadF 30 i2 ?_ _ 32 k32.out Tryd.underlying30 ?_ ?_ ?_); rfl; rfl; kernel_rfl)
  | (go_at_call 16; refine (HF.out w2 v2).mono ?_; rintro e w3 ⟨rfl, b3⟩))
 have B3 := B2.trans (b3.mono B2.size)
 have a3 := a2.below b3
 have x3 := x2.below b3
 have q3 := q2.below b3
 have i3 := i2.below b3
 clear b3
 have e68 := x3.cell 68 _ d68.out
 have e69 := x3.cell 69 _ d69.out
 have e70 := x3.cell 70 _ d70.out
 have t3 := ht.below B3
 have rh3 := rh.below B3
 have rf3 := rf.below B3
 go_upto_region 6 with (first
  | ((with_reducible refine wpList_buildE (.agg (trc tot Ah nh ch Af nf cf).toArray) ?_ ?_); exact exec_build (cs := trc tot Ah nh ch Af nf cf) (ops := [(0, .tmp 35), (1, .tmp 37), (2, .tmp 39)]) rfl hbt.out)
  | ((with_reducible refine wpList_storeF 53 ((Below.refl w3.heap.size w3).alloc (Nat.le_refl _) _) (heap_alloc_new _ _) (Nat.le_refl _) (trc tot Ah nh ch Af nf cf) ?_ ?_ 3 pl3 ?_ ?_ ?_ ?_); rfl; rfl; kernel_rfl; rfl; exact pone; intro w4 p4 b4 z4; clear z4; intro z4; replace z4 := Lib.hid z4))
 have B4 := B3.trans (b4.mono B3.size)
 have a4 := a3.below b4
 have x4 := x3.below b4
 have q4 := q3.below b4
 have i4 := i3.below b4
 have t4 := t3.below b4
 have rh4 := rh3.below b4
 have rf4 := rf3.below b4
 clear e68 e69 e70 b4
 go_upto_region 7 with (first
  | ((with_reducible refine wpList_loadF 53 p4 ?_ _ 3 pl3 Tryd.underlying53 ?_ ?_ ?_); rfl; rfl; kernel_rfl)
  | (go_at_call 15; refine (HE.out w4 rh4 rf4 t4).mono ?_; rintro e w5 ⟨b5, rfl⟩; skip)
  | ((with_reducible refine wpList_storeF 30 ((Below.refl w5.heap.size w5).alloc (Nat.le_refl _) _) (heap_alloc_new _ _) (Nat.le_refl _) (R.map bv) ?_ ?_ 32 r32.out ?_ ?_ ?_ ?_); rfl; rfl; kernel_rfl; (first | rfl | simp); exact rone.out; intro w6 i6 b6 z6; clear z6; intro z6; replace z6 := Lib.hid z6))
 obtain ⟨F, hF⟩ : ∃ F, F = w5.heap.size := ⟨_, rfl⟩
 rw [← hF] at i6 ⊢
 have b56 := b5.trans (b6.mono b5.size)
 have B6 := B4.trans (b56.mono B4.size)
 have a6 := a4.below b56
 have x6 := x4.below b56
 have q6 := q4.below b56
 have j6 := i4.below b56
 have hFs : G < F := by have := i4.lt; have := b5.size; omega
 replace hF := Lib.hid hF
 go_wp2_with (first
  | ((with_reducible refine wpList_loadF 42 a6 ?_ _ 3 l3 Tryd.underlying42 ?_ ?_ ?_); rfl; rfl; kernel_rfl)
  | ((with_reducible refine wpList_storeFA 42 B6 q6 hH2 (wtc As At An ns cs nt ct nn cn) ?_ ?_ 3 l3 ?_ ?_ ?_ ?_); rfl; rfl; kernel_rfl; rfl; exact wone; intro w9 a9 b9 k9 z9))
 refine bodyPost_ret (v := .tuple #[.agg (wtc As At An ns cs nt ct nn cn).toArray, .int .i64 0, .int .i64 13]) ((results_cellUU (C := wtc As At An ns cs nt ct nn cn) (by rfl) (by rfl) a9 _ Tryd.underlying42 rfl 3 l3 (by kernel_rfl)).trans (by rfl)) (by rfl) ?_
 exact ⟨rfl, b9⟩
set_option maxRecDepth 10000 in
set_option maxHeartbeats 8000000 in
theorem WProve_root (As At An : Option Addr) (ns cs nt ct nn cn : Nat) (T : List (List UInt8)) (_ : T.length = nt) (_ : nt ≤ 90000) (N : List Sn) (_ : N.length = nn) (_ : nn ≤ 90000) (v : Value) (ds : List Nd) (h : Hd) (hok : h.ok) (tot : Nat) (htot : tot < 4294967296) (hs : List (List UInt8)) (h32 : All32 hs) (fl : List UInt8) (Ah : Option Addr) (nh ch : Nat) (Af : Option Addr) (nf cf : Nat) (hnh : hs.length = nh) (hnf : fl.length = nf) (hnf2 : nf ≤ 10000) (hnh2 : nh ≤ 10000) (hf : (tFind ds (hdId h)).isSome = true) (r : PRes) (hx : pExt tot hs fl = some r) (hrx : r.x.length = 32) (hrl : ∀ p ∈ r.l, p.2.length = 32) (hne : r.x ≠ h.root) (w : World) (ht : Tabs w) (hv : TRef w v ds) (_ : RdHs w At T) (_ : RdSns w An N) (rh : Rd w Ah (hcl hs)) (rf : Rd w Af (fl.map bv)) :
  Calls Tryd.prog 12 #[.agg (wtc As At An ns cs nt ct nn cn).toArray, v, .agg (blc h tot Ah nh ch Af nf cf).toArray] w fun e w' => e = .returned (.tuple #[.agg (wtc As At An ns cs nt ct nn cn).toArray, .int .i64 0, .int .i64 13]) ∧ Below w.heap.size w w' := by
 obtain ⟨qf, hqf⟩ : ∃ k, tFind ds (hdId h) = some k := Option.isSome_iff_exists.1 hf
 have HE := fun w' r1 r2 t => PExt fl hs h32 tot Ah nh ch Af nf cf hnh hnf htot hnf2 hnh2 w' r1 r2 t
 obtain ⟨d68, d69, d70⟩ := blc_at (h := h) (tot := tot) (Ah := Ah) (nh := nh) (ch := ch) (Af := Af) (nf := nf) (cf := cf) hok
 have hbt := Lib.hid (pt_built tot Ah nh ch Af nf cf)
 have pone := trc_one tot Ah nh ch Af nf cf
 have pl3 := trc_len tot Ah nh ch Af nf cf
 obtain ⟨W, hW⟩ : ∃ W, W = ((w.alloc (.cells (wtc As At An ns cs nt ct nn cn).toArray 42)).alloc (.cells (blc h tot Ah nh ch Af nf cf).toArray 47)).alloc (.cells #[.slice none 0 0, .slice none 0 0, .slice none 0 0] 42) := ⟨_, rfl⟩
 obtain ⟨H, hH⟩ : ∃ H, H = w.heap.size := ⟨_, rfl⟩
 have aW : Av W H 42 (wtc As At An ns cs nt ct nn cn) := by rw [hW, hH]; exact Av.alloc (heap_alloc2_old _ _ _) _
 have xW : Av W (H + 1) 47 (blc h tot Ah nh ch Af nf cf) := by rw [hW, hH]; exact Av.alloc (heap_alloc2_new _ _ _) _
 have zW : Av W (H + 2) 42 [.slice none 0 0, .slice none 0 0, .slice none 0 0] := by
  have e : ∀ (v : World) (o : Obj), (v.alloc o).heap.size = v.heap.size + 1 := fun v o => by simp
  have := heap_alloc_new ((w.alloc (.cells (wtc As At An ns cs nt ct nn cn).toArray 42)).alloc (.cells (blc h tot Ah nh ch Af nf cf).toArray 47)) (.cells #[.slice none 0 0, .slice none 0 0, .slice none 0 0] 42)
  rw [e, e] at this
  rw [hW, hH]; exact this
 have bW : Below w.heap.size w W := by rw [hW]; exact (((Below.refl _ _).alloc (Nat.le_refl _) _).alloc (by simp) _).alloc (by simp; omega) _
 have sz : W.heap.size = H + 3 := by rw [hW, hH]; simp
 have HI := fun w' t => HdId h hok w' t
 obtain ⟨I, hI⟩ : ∃ I, I = hdId h := ⟨_, rfl⟩
 have I32 : I.length = 32 := by rw [hI]; exact hdId_length h
 have HF := fun w' r => TFind v ds (hdId h) (hdId_length h) w' r
 rw [← hI] at HI HF hqf
 have k32 := Lib.hid (show (I.map bv).length = 32 by rw [List.length_map, I32])
 have ione := Lib.hid (show (I.map bv).all (·.oneCell') = true by rw [List.all_eq_true]; exact bv_one I)
 have rhd : W.rangeAt (H + 1) 0 (hdc h) := blc_head xW
 have h68 := Lib.hid (hdc_length hok)
 have wone := wtc_one As At An ns cs nt ct nn cn
 have l3 : (wtc As At An ns cs nt ct nn cn).length = 3 := rfl
 have hHw : w.heap.size ≤ H := by rw [hH]; exact Nat.le_refl _
 have hH2 : w.heap.size ≤ H + 2 := by omega
 have htW := ht.below bW
 have hvW := hv.below bW
 rw [hqf] at HF
 rw [hx] at HE
 unfold ExtPost at HE
 dsimp only at HE
 obtain ⟨R, hR⟩ : ∃ R, R = r.x := ⟨_, rfl⟩
 obtain ⟨ms, hms⟩ : ∃ ms, ms = r.l := ⟨_, rfl⟩
 obtain ⟨nm, hnm⟩ : ∃ k, k = r.l.length := ⟨_, rfl⟩
 have hnm2 : ms.length = nm := by rw [hms, hnm]
 have R32 : R.length = 32 := by rw [hR]; exact hrx
 have m32 : ∀ p ∈ ms, p.2.length = 32 := by rw [hms]; exact hrl
 have r32 := Lib.hid (show (R.map bv).length = 32 by rw [List.length_map, R32])
 have rone := Lib.hid (show (R.map bv).all (·.oneCell') = true by rw [List.all_eq_true]; exact bv_one R)
 rw [← hR, ← hms] at HE
 rw [hnm2] at HE
 have NR := neqHg R h.root R32 hok.2.2.1
 have hroot := Lib.hid (show (h.root.map bv).length = 32 by rw [List.length_map, hok.2.2.1])
 have hne' : (R == h.root) = false := by rw [hR]; simpa using hne
 rw [hne'] at NR
 replace hW := Lib.hid hW
 replace hH := Lib.hid hH
 replace sz := Lib.hid sz
 replace HI := Lib.hid HI
 replace HF := Lib.hid HF
 replace HE := Lib.hid HE
 replace hI := Lib.hid hI
 replace I32 := Lib.hid I32
 replace hf := Lib.hid hf
 replace hqf := Lib.hid hqf
 replace hx := Lib.hid hx
 replace d68 := Lib.hid d68
 replace d69 := Lib.hid d69
 replace d70 := Lib.hid d70
 replace hR := Lib.hid hR
 replace hms := Lib.hid hms
 replace hnm := Lib.hid hnm
 replace hnm2 := Lib.hid hnm2
 replace NR := Lib.hid NR
 replace m32 := Lib.hid m32
 replace R32 := Lib.hid R32
 go_enter Tryd.func12, Tryd.ntmps12
 go_upto_region 1 with fail
 rw [← hW.out, ← hH.out]
 go_upto_region 2 with (first
  | ((with_reducible refine wpList_loadMF 32 (hdc h) rhd ?_ _ Tryd.underlying32 ?_ ?_ ?_); rfl; rfl; (rw [h68.out]; kernel_rfl))
  | (go_at_call 17; refine (HI.out W htW).mono ?_; rintro e w1 ⟨rfl, b1⟩)
  | ((with_reducible refine wpList_storeF 30 ((Below.refl w1.heap.size w1).alloc (Nat.le_refl _) _) (heap_alloc_new _ _) (Nat.le_refl _) (I.map bv) ?_ ?_ 32 k32.out ?_ ?_ ?_ ?_); rfl; rfl; kernel_rfl; (first | rfl | simp); exact ione.out; intro w2 i2 b2 z2; clear z2; intro z2; replace z2 := Lib.hid z2))
 obtain ⟨G, hG⟩ : ∃ G, G = w1.heap.size := ⟨_, rfl⟩
 rw [← hG] at i2 ⊢
 have b12 := b1.trans (b2.mono b1.size)
 have B2 := bW.trans (b12.mono bW.size)
 have a2 := aW.below b12
 have x2 := xW.below b12
 have q2 := zW.below b12
 have v2 := hvW.below b12
 have hGs : H + 3 ≤ G := by have := b1.size; have := sz.out; omega
 replace hG := Lib.hid hG
 clear b1 b2 b12
 go_upto_region 3 with (first
  | ((with_reducible refine wpList_loadF 30 i2 ?_ _ 32 k32.out Tryd.underlying30 ?_ ?_ ?_); rfl; rfl; kernel_rfl)
  | (go_at_call 16; refine (HF.out w2 v2).mono ?_; rintro e w3 ⟨rfl, b3⟩))
 have B3 := B2.trans (b3.mono B2.size)
 have a3 := a2.below b3
 have x3 := x2.below b3
 have q3 := q2.below b3
 have i3 := i2.below b3
 clear b3
 have e68 := x3.cell 68 _ d68.out
 have e69 := x3.cell 69 _ d69.out
 have e70 := x3.cell 70 _ d70.out
 have t3 := ht.below B3
 have rh3 := rh.below B3
 have rf3 := rf.below B3
 go_upto_region 6 with (first
  | ((with_reducible refine wpList_buildE (.agg (trc tot Ah nh ch Af nf cf).toArray) ?_ ?_); exact exec_build (cs := trc tot Ah nh ch Af nf cf) (ops := [(0, .tmp 35), (1, .tmp 37), (2, .tmp 39)]) rfl hbt.out)
  | ((with_reducible refine wpList_storeF 53 ((Below.refl w3.heap.size w3).alloc (Nat.le_refl _) _) (heap_alloc_new _ _) (Nat.le_refl _) (trc tot Ah nh ch Af nf cf) ?_ ?_ 3 pl3 ?_ ?_ ?_ ?_); rfl; rfl; kernel_rfl; rfl; exact pone; intro w4 p4 b4 z4; clear z4; intro z4; replace z4 := Lib.hid z4))
 have B4 := B3.trans (b4.mono B3.size)
 have a4 := a3.below b4
 have x4 := x3.below b4
 have q4 := q3.below b4
 have i4 := i3.below b4
 have t4 := t3.below b4
 have rh4 := rh3.below b4
 have rf4 := rf3.below b4
 clear e68 e69 e70 b4
 go_upto_region 7 with (first
  | ((with_reducible refine wpList_loadF 53 p4 ?_ _ 3 pl3 Tryd.underlying53 ?_ ?_ ?_); rfl; rfl; kernel_rfl)
  | (go_at_call 15; refine (HE.out w4 rh4 rf4 t4).mono ?_; rintro e w5 ⟨b5, A5, c5, rfl, hc5, hA5, rm5⟩; skip)
  | ((with_reducible refine wpList_storeF 30 ((Below.refl w5.heap.size w5).alloc (Nat.le_refl _) _) (heap_alloc_new _ _) (Nat.le_refl _) (R.map bv) ?_ ?_ 32 r32.out ?_ ?_ ?_ ?_); rfl; rfl; kernel_rfl; (first | rfl | simp); exact rone.out; intro w6 i6 b6 z6; clear z6; intro z6; replace z6 := Lib.hid z6))
 obtain ⟨F, hF⟩ : ∃ F, F = w5.heap.size := ⟨_, rfl⟩
 rw [← hF] at i6 ⊢
 have b56 := b5.trans (b6.mono b5.size)
 have B6 := B4.trans (b56.mono B4.size)
 have a6 := a4.below b56
 have x6 := x4.below b56
 have q6 := q4.below b56
 have j6 := i4.below b56
 have hFs : G < F := by have := i4.lt; have := b5.size; omega
 replace hF := Lib.hid hF
 have rr6 := blc_root hok x6
 go_wp2_with (first
  | ((with_reducible refine wpList_loadG 30 i6 ?_ ?_ _ 32 r32.out Tryd.underlying30 ?_ ?_ ?_); rfl; rfl; rfl; kernel_rfl)
  | ((with_reducible refine wpList_loadMH 30 (h.root.map bv) rr6 ?_ ?_ _ Tryd.underlying30 ?_ ?_ ?_); rfl; rfl; rfl; (rw [hroot.out]; kernel_rfl))
  | ((with_reducible refine wpList_binG (op := .neq) (ty := 30) ?_ ?_ ?_ (NR.out _ _ w6) ?_); rfl; rfl; rfl; simp only [Bool.not_false])
  | ((with_reducible refine wpList_loadF 42 a6 ?_ _ 3 l3 Tryd.underlying42 ?_ ?_ ?_); rfl; rfl; kernel_rfl)
  | ((with_reducible refine wpList_storeFA 42 B6 q6 hH2 (wtc As At An ns cs nt ct nn cn) ?_ ?_ 3 l3 ?_ ?_ ?_ ?_); rfl; rfl; kernel_rfl; rfl; exact wone; intro w9 a9 b9 k9 z9))
 refine bodyPost_ret (v := .tuple #[.agg (wtc As At An ns cs nt ct nn cn).toArray, .int .i64 0, .int .i64 13]) ((results_cellUU (C := wtc As At An ns cs nt ct nn cn) (by rfl) (by rfl) a9 _ Tryd.underlying42 rfl 3 l3 (by kernel_rfl)).trans (by rfl)) (by rfl) ?_
 exact ⟨rfl, b9⟩
end Go.Proofs.YtobjgebojhjhnaaDoor
namespace Go.Proofs.YtobjgebojhjhnaaDoor
open Go.RowKit
def wStep (T : List (List UInt8)) (I : List UInt8) (a : List Sn × Nat) (m : Nat × List UInt8) : List Sn × Nat :=
 if decide (4096 ≤ a.1.length) || !(T.contains m.2) || a.1.contains ⟨m.2, I, (m.1 : Int)⟩ then a else (a.1 ++ [⟨m.2, I, (m.1 : Int)⟩], a.2 + 1)
def wSeen (T : List (List UInt8)) (I : List UInt8) (ms : List (Nat × List UInt8)) (N : List Sn) : List Sn × Nat := ms.foldl (wStep T I) (N, 0)
theorem wSeen_step {T : List (List UInt8)} {I : List UInt8} {ms : List (Nat × List UInt8)} {N : List Sn} {j : Nat} {m : Nat × List UInt8} (h : ms[j]? = some m) : (ms.take (j + 1)).foldl (wStep T I) (N, 0) = wStep T I ((ms.take j).foldl (wStep T I) (N, 0)) m := by
 rw [List.take_add_one, h, List.foldl_append]
 rfl
def wProve (ds : List Nd) (T : List (List UInt8)) (N : List Sn) (h : Hd) (tot : Nat) (hs : List (List UInt8)) (fl : List UInt8) : List Sn × Nat × Nat :=
 match tFind ds (hdId h) with
 | none => (N, 0, 9)
 | some _ => match pExt tot hs fl with
  | none => (N, 0, 13)
  | some r => if r.x = h.root then ((wSeen T (hdId h) r.l N).1, (wSeen T (hdId h) r.l N).2, 0) else (N, 0, 13)
theorem size_sns1 : (Tryd.prog.info? 40).map (·.size) = some 1 := by kernel_rfl
theorem rg_mt {w : World} {b o : Nat} {p : Nat × List UInt8} (r : w.rangeAt b o (mtc p)) : w.rangeAt b (o + 1) (p.2.map bv) := fun j u hu => by
 have := r (1 + j) u (by
  unfold mtc
  rw [List.getElem?_append_right (by simp)]
  simpa using hu)
 rw [show o + 1 + j = o + (1 + j) by omega]
 exact this
set_option maxRecDepth 10000 in
set_option maxHeartbeats 8000000 in
theorem WProve_ok (As At An : Option Addr) (ns cs nt ct nn cn : Nat) (T : List (List UInt8)) (hT : T.length = nt) (hnt : nt ≤ 90000) (N : List Sn) (hN : N.length = nn) (hnn : nn ≤ 90000) (v : Value) (ds : List Nd) (h : Hd) (hok : h.ok) (tot : Nat) (htot : tot < 4294967296) (hs : List (List UInt8)) (h32 : All32 hs) (fl : List UInt8) (Ah : Option Addr) (nh ch : Nat) (Af : Option Addr) (nf cf : Nat) (hnh : hs.length = nh) (hnf : fl.length = nf) (hnf2 : nf ≤ 10000) (hnh2 : nh ≤ 10000) (hf : (tFind ds (hdId h)).isSome = true) (r : PRes) (hx : pExt tot hs fl = some r) (hrx : r.x.length = 32) (hrl : ∀ p ∈ r.l, p.2.length = 32) (hrn : r.l.length ≤ 100000) (heq : r.x = h.root) (w : World) (ht : Tabs w) (hv : TRef w v ds) (rT : RdHs w At T) (rN : RdSns w An N) (rh : Rd w Ah (hcl hs)) (rf : Rd w Af (fl.map bv)) :
  Calls Tryd.prog 12 #[.agg (wtc As At An ns cs nt ct nn cn).toArray, v, .agg (blc h tot Ah nh ch Af nf cf).toArray] w fun e w' => ∃ A' c', e = .returned (.tuple #[.agg (wtc As At A' ns cs nt ct (wSeen T (hdId h) r.l N).1.length c').toArray, .int .i64 ((wSeen T (hdId h) r.l N).2 : Int), .int .i64 0]) ∧ RdSns w' A' (wSeen T (hdId h) r.l N).1 ∧ Below w.heap.size w w' := by
 obtain ⟨qf, hqf⟩ : ∃ k, tFind ds (hdId h) = some k := Option.isSome_iff_exists.1 hf
 have HE := fun w' r1 r2 t => PExt fl hs h32 tot Ah nh ch Af nf cf hnh hnf htot hnf2 hnh2 w' r1 r2 t
 obtain ⟨d68, d69, d70⟩ := blc_at (h := h) (tot := tot) (Ah := Ah) (nh := nh) (ch := ch) (Af := Af) (nf := nf) (cf := cf) hok
 have hbt := Lib.hid (pt_built tot Ah nh ch Af nf cf)
 have pone := trc_one tot Ah nh ch Af nf cf
 have pl3 := trc_len tot Ah nh ch Af nf cf
 obtain ⟨W, hW⟩ : ∃ W, W = ((w.alloc (.cells (wtc As At An ns cs nt ct nn cn).toArray 42)).alloc (.cells (blc h tot Ah nh ch Af nf cf).toArray 47)).alloc (.cells #[.slice none 0 0, .slice none 0 0, .slice none 0 0] 42) := ⟨_, rfl⟩
 obtain ⟨H, hH⟩ : ∃ H, H = w.heap.size := ⟨_, rfl⟩
 have aW : Av W H 42 (wtc As At An ns cs nt ct nn cn) := by rw [hW, hH]; exact Av.alloc (heap_alloc2_old _ _ _) _
 have xW : Av W (H + 1) 47 (blc h tot Ah nh ch Af nf cf) := by rw [hW, hH]; exact Av.alloc (heap_alloc2_new _ _ _) _
 have zW : Av W (H + 2) 42 [.slice none 0 0, .slice none 0 0, .slice none 0 0] := by
  have e : ∀ (v : World) (o : Obj), (v.alloc o).heap.size = v.heap.size + 1 := fun v o => by simp
  have := heap_alloc_new ((w.alloc (.cells (wtc As At An ns cs nt ct nn cn).toArray 42)).alloc (.cells (blc h tot Ah nh ch Af nf cf).toArray 47)) (.cells #[.slice none 0 0, .slice none 0 0, .slice none 0 0] 42)
  rw [e, e] at this
  rw [hW, hH]; exact this
 have bW : Below w.heap.size w W := by rw [hW]; exact (((Below.refl _ _).alloc (Nat.le_refl _) _).alloc (by simp) _).alloc (by simp; omega) _
 have sz : W.heap.size = H + 3 := by rw [hW, hH]; simp
 have HI := fun w' t => HdId h hok w' t
 obtain ⟨I, hI⟩ : ∃ I, I = hdId h := ⟨_, rfl⟩
 have I32 : I.length = 32 := by rw [hI]; exact hdId_length h
 have HF := fun w' r => TFind v ds (hdId h) (hdId_length h) w' r
 rw [← hI] at HI HF hqf ⊢
 have k32 := Lib.hid (show (I.map bv).length = 32 by rw [List.length_map, I32])
 have ione := Lib.hid (show (I.map bv).all (·.oneCell') = true by rw [List.all_eq_true]; exact bv_one I)
 have rhd : W.rangeAt (H + 1) 0 (hdc h) := blc_head xW
 have h68 := Lib.hid (hdc_length hok)
 have wone := wtc_one As At An ns cs nt ct nn cn
 have l3 : (wtc As At An ns cs nt ct nn cn).length = 3 := rfl
 have hHw : w.heap.size ≤ H := by rw [hH]; exact Nat.le_refl _
 have hH2 : w.heap.size ≤ H + 2 := by omega
 have htW := ht.below bW
 have hvW := hv.below bW
 rw [hqf] at HF
 rw [hx] at HE
 unfold ExtPost at HE
 dsimp only at HE
 obtain ⟨R, hR⟩ : ∃ R, R = r.x := ⟨_, rfl⟩
 obtain ⟨ms, hms⟩ : ∃ ms, ms = r.l := ⟨_, rfl⟩
 obtain ⟨nm, hnm⟩ : ∃ k, k = r.l.length := ⟨_, rfl⟩
 have hnm2 : ms.length = nm := by rw [hms, hnm]
 have R32 : R.length = 32 := by rw [hR]; exact hrx
 have m32 : ∀ p ∈ ms, p.2.length = 32 := by rw [hms]; exact hrl
 have r32 := Lib.hid (show (R.map bv).length = 32 by rw [List.length_map, R32])
 have rone := Lib.hid (show (R.map bv).all (·.oneCell') = true by rw [List.all_eq_true]; exact bv_one R)
 rw [← hR, ← hms] at HE
 rw [← hms]
 rw [hnm2] at HE
 have NR := neqHg R h.root R32 hok.2.2.1
 have hroot := Lib.hid (show (h.root.map bv).length = 32 by rw [List.length_map, hok.2.2.1])
 have heq' : (R == h.root) = true := by rw [hR]; simpa using heq
 rw [heq'] at NR
 have hzs := zeros_Sn
 obtain ⟨ys, hyy⟩ : ∃ ys, ys = snc ⟨List.replicate 32 0, List.replicate 32 0, 0⟩ := ⟨_, rfl⟩
 have hyl : ys.length = 65 := by rw [hyy]; rfl
 rw [← hyy] at hzs
 clear hyy
 have hnm3 : nm ≤ 100000 := by omega
 have HCl := fun w' (r : RdSns w' An N) => CloneS N An nn cn w' r hN (by omega)
 obtain ⟨Z, hZ⟩ : ∃ Z, Z = wSeen T I ms N := ⟨_, rfl⟩
 rw [← hZ]
 replace hW := Lib.hid hW
 replace hH := Lib.hid hH
 replace sz := Lib.hid sz
 replace HI := Lib.hid HI
 replace HF := Lib.hid HF
 replace HE := Lib.hid HE
 replace hI := Lib.hid hI
 replace hf := Lib.hid hf
 replace hqf := Lib.hid hqf
 replace hx := Lib.hid hx
 replace d68 := Lib.hid d68
 replace d69 := Lib.hid d69
 replace d70 := Lib.hid d70
 replace hR := Lib.hid hR
 replace hms := Lib.hid hms
 replace hnm := Lib.hid hnm
 replace hnm2 := Lib.hid hnm2
 replace NR := Lib.hid NR
 replace m32 := Lib.hid m32
 replace R32 := Lib.hid R32
 replace hyl := Lib.hid hyl
 replace HCl := Lib.hid HCl
 replace hZ := Lib.hid hZ
 go_enter Tryd.func12, Tryd.ntmps12
 go_upto_region 1 with fail
 rw [← hW.out, ← hH.out]
 go_upto_region 2 with (first
  | ((with_reducible refine wpList_loadMF 32 (hdc h) rhd ?_ _ Tryd.underlying32 ?_ ?_ ?_); rfl; rfl; (rw [h68.out]; kernel_rfl))
  | (go_at_call 17; refine (HI.out W htW).mono ?_; rintro e w1 ⟨rfl, b1⟩)
  | ((with_reducible refine wpList_storeF 30 ((Below.refl w1.heap.size w1).alloc (Nat.le_refl _) _) (heap_alloc_new _ _) (Nat.le_refl _) (I.map bv) ?_ ?_ 32 k32.out ?_ ?_ ?_ ?_); rfl; rfl; kernel_rfl; (first | rfl | simp); exact ione.out; intro w2 i2 b2 z2; clear z2; intro z2; replace z2 := Lib.hid z2))
 obtain ⟨G, hG⟩ : ∃ G, G = w1.heap.size := ⟨_, rfl⟩
 rw [← hG] at i2 ⊢
 have b12 := b1.trans (b2.mono b1.size)
 have B2 := bW.trans (b12.mono bW.size)
 have a2 := aW.below b12
 have x2 := xW.below b12
 have q2 := zW.below b12
 have v2 := hvW.below b12
 have hGs : H + 3 ≤ G := by have := b1.size; have := sz.out; omega
 replace hG := Lib.hid hG
 clear b1 b2 b12
 go_upto_region 3 with (first
  | ((with_reducible refine wpList_loadF 30 i2 ?_ _ 32 k32.out Tryd.underlying30 ?_ ?_ ?_); rfl; rfl; kernel_rfl)
  | (go_at_call 16; refine (HF.out w2 v2).mono ?_; rintro e w3 ⟨rfl, b3⟩))
 have B3 := B2.trans (b3.mono B2.size)
 have a3 := a2.below b3
 have x3 := x2.below b3
 have q3 := q2.below b3
 have i3 := i2.below b3
 clear b3
 have e68 := x3.cell 68 _ d68.out
 have e69 := x3.cell 69 _ d69.out
 have e70 := x3.cell 70 _ d70.out
 have t3 := ht.below B3
 have rh3 := rh.below B3
 have rf3 := rf.below B3
 go_upto_region 6 with (first
  | ((with_reducible refine wpList_buildE (.agg (trc tot Ah nh ch Af nf cf).toArray) ?_ ?_); exact exec_build (cs := trc tot Ah nh ch Af nf cf) (ops := [(0, .tmp 35), (1, .tmp 37), (2, .tmp 39)]) rfl hbt.out)
  | ((with_reducible refine wpList_storeF 53 ((Below.refl w3.heap.size w3).alloc (Nat.le_refl _) _) (heap_alloc_new _ _) (Nat.le_refl _) (trc tot Ah nh ch Af nf cf) ?_ ?_ 3 pl3 ?_ ?_ ?_ ?_); rfl; rfl; kernel_rfl; rfl; exact pone; intro w4 p4 b4 z4; clear z4; intro z4; replace z4 := Lib.hid z4))
 have B4 := B3.trans (b4.mono B3.size)
 have a4 := a3.below b4
 have x4 := x3.below b4
 have q4 := q3.below b4
 have i4 := i3.below b4
 have t4 := t3.below b4
 have rh4 := rh3.below b4
 have rf4 := rf3.below b4
 clear e68 e69 e70 b4
 go_upto_region 7 with (first
  | ((with_reducible refine wpList_loadF 53 p4 ?_ _ 3 pl3 Tryd.underlying53 ?_ ?_ ?_); rfl; rfl; kernel_rfl)
  | (go_at_call 15; refine (HE.out w4 rh4 rf4 t4).mono ?_; rintro e w5 ⟨b5, A5, c5, rfl, hc5, hA5, rm5⟩; have rm5' := rm5)
  | ((with_reducible refine wpList_storeF 30 ((Below.refl w5.heap.size w5).alloc (Nat.le_refl _) _) (heap_alloc_new _ _) (Nat.le_refl _) (R.map bv) ?_ ?_ 32 r32.out ?_ ?_ ?_ ?_); rfl; rfl; kernel_rfl; (first | rfl | simp); exact rone.out; intro w6 i6 b6 z6; clear z6; intro z6; replace z6 := Lib.hid z6))
 obtain ⟨F, hF⟩ : ∃ F, F = w5.heap.size := ⟨_, rfl⟩
 rw [← hF] at i6 ⊢
 have b56 := b5.trans (b6.mono b5.size)
 have B6 := B4.trans (b56.mono B4.size)
 have a6 := a4.below b56
 have x6 := x4.below b56
 have q6 := q4.below b56
 have j6 := i4.below b56
 have hFs : G < F := by have := i4.lt; have := b5.size; omega
 replace hF := Lib.hid hF
 have rr6 := blc_root hok x6
 have rm6 := rm5.below b6
 have f1 := a6.cell 1 (.slice At nt ct) rfl
 go_upto_region 10 with (first
  | ((with_reducible refine wpList_loadG 30 i6 ?_ ?_ _ 32 r32.out Tryd.underlying30 ?_ ?_ ?_); rfl; rfl; rfl; kernel_rfl)
  | ((with_reducible refine wpList_loadMH 30 (h.root.map bv) rr6 ?_ ?_ _ Tryd.underlying30 ?_ ?_ ?_); rfl; rfl; rfl; (rw [hroot.out]; kernel_rfl))
  | ((with_reducible refine wpList_binG (op := .neq) (ty := 30) ?_ ?_ ?_ (NR.out _ _ w6) ?_); rfl; rfl; rfl; simp only [Bool.not_true])
  | (go_at_call 34; refine (WAmong At nt ct w6).mono ?_; rintro e w7 ⟨rfl, h7⟩; replace h7 := Lib.hid h7))
 obtain ⟨C, hC⟩ : ∃ C, C = w6.heap.size := ⟨_, rfl⟩
 rw [← hC]
 have b7 : Below w6.heap.size w6 w7 := by rw [h7.out]; exact (Below.refl _ _).alloc (Nat.le_refl _) _
 have g7 : Av w7 C 23 [.slice At nt ct] := by rw [h7.out, hC]; exact heap_alloc_new _ _
 have B7 := B6.trans (b7.mono B6.size)
 have a7 := a6.below b7
 have q7 := q6.below b7
 have i7 := j6.below b7
 have rm7 := rm6.below b7
 have rT7 := rT.below B7
 have rN7 := rN.below B7
 have f2 := a7.cell 2 (.slice An nn cn) rfl
 replace hC := Lib.hid hC
 clear f1 rm5' b5 b6 b56 t3 t4 rh3 rh4 rf3 rf4 a2 a3 a4 x2 x3 x4 q2 q3 q4 i2 i3 i4 p4 rm5 rm6 i6 z6 rr6
 go_upto_region 11 with (go_at_call 35; refine (HCl.out w7 rN7).mono ?_; rintro e w8 ⟨u8, rfl, o8, b8⟩)
 go_wp2
 obtain ⟨K, hK⟩ : ∃ K, K = w7.heap.size := ⟨_, rfl⟩
 rw [← hK] at o8
 have hok0 : OkSns N := rN.2
 have hHK : H + 3 ≤ K := by rw [hK]; have := B7.size; have := q7.lt; omega
 have hKs : K ≤ w7.heap.size := by rw [hK]; exact Nat.le_refl _
 replace hK := Lib.hid hK
 go_loopw [17, 18, 65] (fun u c i wr => ∃ (j : Nat) (acc : List Sn × Nat), j ≤ nm ∧ i = .int .i64 (j : Int) ∧ c = .int .i64 (acc.2 : Int) ∧ Below w7.heap.size w7 wr ∧ wr.ownsRow K 58 65 u acc.1.length (snl acc.1) ∧ OkSns acc.1 ∧ acc.1.length ≤ nn + j ∧ acc.2 ≤ j ∧ Hid (acc = (ms.take j).foldl (wStep T I) (N, 0))) (fun _ _ i _ => nm - (intOf i).toNat)
 case atStart => exact ⟨0, (N, 0), by omega, rfl, rfl, b8, by rw [hN]; exact o8, hok0, by show N.length ≤ nn + 0; omega, by show 0 ≤ 0; omega, Lib.hid rfl⟩
 case round =>
  clear o8 b8 f2
  obtain ⟨j, acc, hj, rfl, rfl, bw, ow, hok', hln, hcn, hacc⟩ := hrel
  have hsz := bw.size
  by_cases hlt : j < nm
  ·have t2 : decide ((j : Int) < (nm : Int)) = true := by simp; omega
   obtain ⟨⟨mp, mh⟩, hm⟩ : ∃ m, ms[j]? = some m := ⟨_, List.getElem?_eq_getElem (by rw [hnm2.out]; exact hlt)⟩
   have mok : mh.length = 32 := m32.out (mp, mh) (List.mem_of_getElem? hm)
   obtain ⟨bb, off, rfl⟩ := rm7.someA (by intro e; have := mlc_len m32.out; rw [e, hnm2.out] at this; simp at this; omega)
   have rm : wr.rangeAt bb (off + j * 33) (mtc (mp, mh)) := Rd.piece mtc 33 ms (fun e he => mtc_len (m32.out e he)) (rm7.below bw) j (mp, mh) hm
   have ml := Lib.hid (mtc_len (p := (mp, mh)) mok)
   have mone := Lib.hid (List.all_eq_true.2 (mtc_one (mp, mh)))
   have m32' := Lib.hid (show (mh.map bv).length = 32 by rw [List.length_map, mok])
   obtain ⟨s, hs⟩ : ∃ s : Sn, s = ⟨mh, I, (mp : Int)⟩ := ⟨_, rfl⟩
   have sok : s.ok := by rw [hs]; exact ⟨mok, I32⟩
   have s65 := Lib.hid (snc_length sok)
   have sone := Lib.hid (List.all_eq_true.2 (snc_one s))
   have hbs := Lib.hid (sn_built mh I (mp : Int) mok I32)
   rw [← hs] at hbs
   obtain ⟨Au, cu, rfl, hcu, _⟩ := own_form ow
   have HCo := fun w' (r : RdHs w' At T) (g : Av w' C 23 [.slice At nt ct]) => WAmong1 T mh mok At nt ct C w' r hT (by omega) g
   have HS := fun w' Au cu (r : Rd w' Au (snl acc.1)) => ConS acc.1 s sok Au acc.1.length cu w' ⟨r, hok'⟩ rfl (by omega)
   obtain ⟨P2, hP2⟩ : ∃ b, b = T.contains mh := ⟨_, rfl⟩
   obtain ⟨P3, hP3⟩ : ∃ b, b = acc.1.contains s := ⟨_, rfl⟩
   rw [← hP2] at HCo
   rw [← hP3] at HS
   obtain ⟨la, hla⟩ : ∃ k, k = acc.1.length := ⟨_, rfl⟩
   obtain ⟨ca, hca⟩ : ∃ k, k = acc.2 := ⟨_, rfl⟩
   rw [← hla] at ow hcu HS hln ⊢
   rw [← hca] at hcn ⊢
   have hst : ∀ b, (decide (4096 ≤ acc.1.length) || !(T.contains mh) || acc.1.contains ⟨mh, I, (mp : Int)⟩) = b → (decide (4096 ≤ la) || !P2 || P3) = b := fun b e => by rw [hP2, hP3, hla, hs]; exact e
   have hst' : (decide (4096 ≤ acc.1.length) || !(T.contains mh) || acc.1.contains ⟨mh, I, (mp : Int)⟩) = (decide (4096 ≤ la) || !P2 || P3) := by rw [hP2, hP3, hla, hs]
   clear hst
   have hskip : (decide (4096 ≤ la) || !P2 || P3) = true → Hid (acc = (ms.take (j + 1)).foldl (wStep T I) (N, 0)) := fun e => Lib.hid (by
    rw [wSeen_step hm, ← hacc.out, wStep, if_pos (by rw [hst']; exact e)])
   have htake : (decide (4096 ≤ la) || !P2 || P3) = false → Hid ((acc.1 ++ [s], acc.2 + 1) = (ms.take (j + 1)).foldl (wStep T I) (N, 0)) := fun e => Lib.hid (by
    rw [wSeen_step hm, ← hacc.out, wStep, if_neg (by rw [hst', e]; decide), hs])
   replace hskip := Lib.hid hskip
   replace htake := Lib.hid htake
   have m0 : 0 ≤ (j : Int) := by omega
   have m1 : (j : Int) < (nm : Int) := by omega
   replace hm := Lib.hid hm
   replace hs := Lib.hid hs
   replace hP2 := Lib.hid hP2
   replace hP3 := Lib.hid hP3
   replace hla := Lib.hid hla
   replace hca := Lib.hid hca
   replace hst' := Lib.hid hst'
   replace HCo := Lib.hid HCo
   replace HS := Lib.hid HS
   replace ow := Lib.hid ow
   have i8 := i7.below bw
   go_upto_region 15 with (first
    | ((with_reducible refine wpList_loadMF 61 (mtc (mp, mh)) rm ?_ _ Tryd.underlying61 ?_ ?_ ?_); rfl; rfl; (rw [ml.out]; kernel_rfl))
    | ((with_reducible refine wpList_storeF 61 ((Below.refl wr.heap.size wr).alloc (Nat.le_refl _) _) (heap_alloc_new _ _) (Nat.le_refl _) (mtc (mp, mh)) ?_ ?_ 33 ?_ ?_ ?_ ?_ ?_); rfl; rfl; exact ml.out; kernel_rfl; rfl; exact mone.out; intro wA aA bA qA zA; clear qA))
   obtain ⟨GA, hGA⟩ : ∃ g, g = wr.heap.size := ⟨_, rfl⟩
   rw [← hGA] at aA ⊢
   have rmA : wA.rangeAt GA 1 (mh.map bv) := by have := rg_mt aA.range0; rwa [Nat.zero_add] at this
   have cA := aA.cell 0 (.int .i64 (mp : Int)) rfl
   have iA := i8.below bA
   have k32' := Lib.hid (show (I.map bv).length = 32 by rw [List.length_map, I32])
   replace hGA := Lib.hid hGA
   replace zA := Lib.hid zA
   go_upto_region 16 with (first
    | ((with_reducible refine wpList_loadMF 30 (mh.map bv) rmA ?_ _ Tryd.underlying30 ?_ ?_ ?_); rfl; rfl; (rw [m32'.out]; kernel_rfl))
    | ((with_reducible refine wpList_loadF 30 iA ?_ _ 32 k32'.out Tryd.underlying30 ?_ ?_ ?_); rfl; rfl; kernel_rfl)
    | ((with_reducible refine wpList_buildE (.agg (snc s).toArray) ?_ ?_); exact exec_build (cs := snc s) (ops := [(0, .tmp 70), (1, .tmp 71), (2, .tmp 73)]) rfl hbs.out)
    | ((with_reducible refine wpList_storeF 58 ((Below.refl wA.heap.size wA).alloc (Nat.le_refl _) _) (heap_alloc_new _ _) (Nat.le_refl _) (snc s) ?_ ?_ 65 ?_ ?_ ?_ ?_ ?_); rfl; rfl; exact s65.out; kernel_rfl; (rw [List.size_toArray]; exact hyl.out); exact sone.out; intro wB aB bB qB zB; clear qB))
   have bAB := bA.trans (bB.mono bA.size)
   have BB := bw.trans (bAB.mono bw.size)
   have rmB : wB.rangeAt GA 1 (mh.map bv) := by have := rg_mt (aA.below bB).range0; rwa [Nat.zero_add] at this
   have oB := own_below ow.out bAB
   have rTB := rT7.below BB
   have gB := g7.below BB
   replace zB := Lib.hid zB
   clear cA iA i8 rm
   by_cases p1 : 4096 ≤ la
   ·have t3 : decide ((4096 : Int) ≤ (la : Int)) = true := by simp; omega
    have hnx := hskip.out (by simp [p1])
    replace p1 := Lib.hid p1
    go_wp2
    refine ⟨⟨j + 1, acc, by omega, by go_num, by rw [hca.out], BB, by rw [← hla.out]; exact oB, hok', by rw [← hla.out]; omega, by rw [← hca.out]; omega, hnx⟩, ?_⟩
    simp [intOf]
    omega
   ·have t3 : decide ((4096 : Int) ≤ (la : Int)) = false := by simp; omega
    cases P2 with
    | false =>
     have hnx := hskip.out (by simp)
     replace p1 := Lib.hid p1
     go_wp2_with (first
      | ((with_reducible refine wpList_loadMH 30 (mh.map bv) rmB ?_ ?_ _ Tryd.underlying30 ?_ ?_ ?_); rfl; rfl; rfl; (rw [m32'.out]; kernel_rfl))
      | (go_at_call 60; refine (HCo.out wB rTB gB).mono ?_; rintro e wC ⟨rfl, bC⟩; have BC := BB.trans (bC.mono BB.size); have oC := own_below oB bC; have sC := aB.below bC))
     refine ⟨⟨j + 1, acc, by omega, by go_num, by rw [hca.out], BC, by rw [← hla.out]; exact oC, hok', by rw [← hla.out]; omega, by rw [← hca.out]; omega, hnx⟩, ?_⟩
     simp [intOf]
     omega
    | true =>
     cases P3 with
     | true =>
      have hnx := hskip.out (by simp)
      replace p1 := Lib.hid p1
      go_wp2_with (first
       | ((with_reducible refine wpList_loadMH 30 (mh.map bv) rmB ?_ ?_ _ Tryd.underlying30 ?_ ?_ ?_); rfl; rfl; rfl; (rw [m32'.out]; kernel_rfl))
       | (go_at_call 60; refine (HCo.out wB rTB gB).mono ?_; rintro e wC ⟨rfl, bC⟩; have BC := BB.trans (bC.mono BB.size); have oC := own_below oB bC; have sC := aB.below bC)
       | ((with_reducible refine wpList_loadG 58 sC ?_ ?_ _ 65 s65.out Tryd.underlying58 ?_ ?_ ?_); rfl; rfl; rfl; kernel_rfl)
       | (go_at_call 36; refine (HS.out wC Au cu (own_rd oC)).mono ?_; rintro e wD ⟨rfl, bD⟩; have BD := BC.trans (bD.mono BC.size); have oD := own_below oC bD; have sD := sC.below bD))
      refine ⟨⟨j + 1, acc, by omega, by go_num, by rw [hca.out], BD, by rw [← hla.out]; exact oD, hok', by rw [← hla.out]; omega, by rw [← hca.out]; omega, hnx⟩, ?_⟩
      simp [intOf]
      omega
     | false =>
      have hnx := htake.out (by simpa using p1)
      have p1' := Lib.hid p1
      clear p1
      go_upto_region 17 with (first
       | ((with_reducible refine wpList_loadMH 30 (mh.map bv) rmB ?_ ?_ _ Tryd.underlying30 ?_ ?_ ?_); rfl; rfl; rfl; (rw [m32'.out]; kernel_rfl))
       | (go_at_call 60; refine (HCo.out wB rTB gB).mono ?_; rintro e wC ⟨rfl, bC⟩; have BC := BB.trans (bC.mono BB.size); have oC := own_below oB bC; have sC := aB.below bC)
       | ((with_reducible refine wpList_loadG 58 sC ?_ ?_ _ 65 s65.out Tryd.underlying58 ?_ ?_ ?_); rfl; rfl; rfl; kernel_rfl)
       | (go_at_call 36; refine (HS.out wC Au cu (own_rd oC)).mono ?_; rintro e wD ⟨rfl, bD⟩; have BD := BC.trans (bD.mono BC.size); have oD := own_below oC bD; have sD := sC.below bD))
      have hDs : K ≤ wD.heap.size := Nat.le_trans hKs BD.size
      have BDK : Below K w7 wD := BD.mono hKs
      have s65l := Lib.hid (show (snc s).length = 1 * 65 by rw [s65.out])
      have sone' := Lib.hid (snc_one s)
      have oD' := Lib.hid oD
      clear oD
      go_upto_region 18 with (first
       | ((with_reducible refine wpList_loadF 58 sD ?_ _ 65 s65.out Tryd.underlying58 ?_ ?_ ?_); rfl; rfl; kernel_rfl)
       | ((with_reducible refine wpList_build1 Tryd.underlying40 infoSn zeroSn (by decide) (by decide) (snc s) s65.out rfl ?_))
       | (at_builtin; refine wpList_appE Tryd.underlying40 infoSn zeroSn (by decide) (own_below oD'.out ((Below.refl wD.heap.size wD).alloc (Nat.le_refl _) _)) (by simp; omega) (snc s) 1 1 (Av.rd (t := 58) (heap_alloc_new _ _)) s65l.out sone'.out (by omega) (by omega) rfl (.tmp 90) (.tmp 92) rfl rfl rfl ?_; intro vE wE oE gE _))
      have bE := own_app (BDK.alloc hDs _) (own_below oD'.out ((Below.refl wD.heap.size wD).alloc (Nat.le_refl _) _)) gE (by simp; omega)
      have bE' : Below w7.heap.size w7 wE := by rw [← hK.out]; exact bE
      have el : snl acc.1 ++ snc s = snl (acc.1 ++ [s]) := by simp [snl]
      rw [el] at oE
      replace el := Lib.hid el
      go_wp2
      refine ⟨⟨j + 1, (acc.1 ++ [s], acc.2 + 1), by omega, by go_num, by show Value.int .i64 _ = Value.int .i64 ((acc.2 + 1 : Nat) : Int); rw [← hca.out]; go_num, bE', ?_, ?_, ?_, ?_, hnx⟩, ?_⟩
      ·simp only [List.length_append, List.length_singleton]
       rw [← hla.out]; exact oE
      ·intro e he
       rcases List.mem_append.1 he with he | he
       ·exact hok' e he
       ·rw [List.mem_singleton.1 he]; exact sok
      ·simp only [List.length_append, List.length_singleton]
       rw [← hla.out]; omega
      ·show acc.2 + 1 ≤ j + 1
       rw [← hca.out]; omega
      ·simp [intOf]; omega
  ·obtain rfl : j = nm := by omega
   have t2 : decide ((j : Int) < (j : Int)) = false := by simp
   have eZ : Z = acc := by rw [hZ.out, wSeen, hacc.out, List.take_of_length_le (by rw [hnm2.out]; exact Nat.le_refl _)]
   obtain ⟨la, hla⟩ : ∃ k, k = acc.1.length := ⟨_, rfl⟩
   obtain ⟨ca, hca⟩ : ∃ k, k = acc.2 := ⟨_, rfl⟩
   rw [← hla] at ow
   obtain ⟨Au, cu, rfl, hcu, _⟩ := own_form ow
   have a8 := a7.below bw
   have q8 := q7.below bw
   have Bw := B7.trans (bw.mono B7.size)
   replace hla := Lib.hid hla
   replace hca := Lib.hid hca
   replace eZ := Lib.hid eZ
   go_upto_region 21 with (refine wpList_storeS rfl 40 _ _ rfl rfl a8 (show 2 < 3 by decide) Au la cu rfl size_sns1 ?_)
   have S5 := a8.set 2 (.slice Au la cu)
   have z9 := q8.other ⟨H, 2, none⟩ (.slice Au la cu) (by show H + 2 ≠ H; omega)
   have b9' := Bw.setCell (p := ⟨H, 2, none⟩) hHw (.slice Au la cu)
   have own5 := own_fr ow (Fr.setCell wr ⟨H, 2, none⟩ (.slice Au la cu)) (fun k hk e => by
    have := (World.ownsRow.lt ow k hk).1
    simp only at e
    omega)
   obtain ⟨wX, hwX⟩ : ∃ wX, wX = wr.setCell ⟨H, 2, none⟩ (.slice Au la cu) := ⟨_, rfl⟩
   rw [← hwX] at S5 z9 b9' own5 ⊢
   have aX : Av wX H 42 (wtc As At Au ns cs nt ct la cu) := S5
   have wone' := wtc_one As At Au ns cs nt ct la cu
   have l3' : (wtc As At Au ns cs nt ct la cu).length = 3 := rfl
   replace hwX := Lib.hid hwX
   clear S5 a8
   go_wp2_with (first
    | ((with_reducible refine wpList_loadF 42 aX ?_ _ 3 l3' Tryd.underlying42 ?_ ?_ ?_); rfl; rfl; kernel_rfl)
    | ((with_reducible refine wpList_storeFA 42 b9' z9 hH2 (wtc As At Au ns cs nt ct la cu) ?_ ?_ 3 l3' ?_ ?_ ?_ ?_); rfl; rfl; kernel_rfl; rfl; exact wone'; intro wY aY bY kY zY))
   refine bodyPost_ret (v := .tuple #[.agg (wtc As At Au ns cs nt ct la cu).toArray, .int .i64 (acc.2 : Int), .int .i64 0]) ((results_cellUU (C := wtc As At Au ns cs nt ct la cu) (by rfl) (by rfl) aY _ Tryd.underlying42 rfl 3 l3' (by kernel_rfl)).trans (by rfl)) (by rfl) ?_
   have own6 := own_fr own5 (S := fun k => k = H + 2) ⟨bY.os.trans b9'.os.symm, bY.tape.trans b9'.tape.symm, bY.output.trans b9'.output.symm, by rw [zY]; exact Nat.le_refl _, fun k _ hk => kY k hk⟩ (fun k hk e => by
    have := (World.ownsRow.lt own5 k hk).1
    omega)
   rw [eZ.out, ← hla.out]
   exact ⟨Au, cu, rfl, ⟨own_rd own6, hok'⟩, bY⟩
theorem WProve (As At An : Option Addr) (ns cs nt ct nn cn : Nat) (T : List (List UInt8)) (hT : T.length = nt) (hnt : nt ≤ 90000) (N : List Sn) (hN : N.length = nn) (hnn : nn ≤ 90000) (v : Value) (ds : List Nd) (h : Hd) (hok : h.ok) (tot : Nat) (htot : tot < 4294967296) (hs : List (List UInt8)) (h32 : All32 hs) (fl : List UInt8) (Ah : Option Addr) (nh ch : Nat) (Af : Option Addr) (nf cf : Nat) (hnh : hs.length = nh) (hnf : fl.length = nf) (hnf2 : nf ≤ 10000) (hnh2 : nh ≤ 10000) (w : World) (ht : Tabs w) (hv : TRef w v ds) (rT : RdHs w At T) (rN : RdSns w An N) (rh : Rd w Ah (hcl hs)) (rf : Rd w Af (fl.map bv)) :
  Calls Tryd.prog 12 #[.agg (wtc As At An ns cs nt ct nn cn).toArray, v, .agg (blc h tot Ah nh ch Af nf cf).toArray] w fun e w' => ∃ A' n' c', e = .returned (.tuple #[.agg (wtc As At A' ns cs nt ct n' c').toArray, .int .i64 ((wProve ds T N h tot hs fl).2.1 : Int), .int .i64 ((wProve ds T N h tot hs fl).2.2 : Int)]) ∧ (wProve ds T N h tot hs fl).1.length = n' ∧ RdSns w' A' (wProve ds T N h tot hs fl).1 ∧ Below w.heap.size w w' := by
 unfold wProve
 cases hf : tFind ds (hdId h) with
 | none =>
  exact (WProve_orphan As At An ns cs nt ct nn cn T hT hnt N hN hnn v ds h hok tot htot hs h32 fl Ah nh ch Af nf cf hnh hnf hnf2 hnh2 hf w ht hv rT rN rh rf).mono fun e w' ⟨h1, h2⟩ => ⟨An, nn, cn, h1, hN, rN.below h2, h2⟩
 | some k =>
  have hf' : (tFind ds (hdId h)).isSome = true := by rw [hf]; rfl
  dsimp only
  cases hx : pExt tot hs fl with
  | none =>
   exact (WProve_part As At An ns cs nt ct nn cn T hT hnt N hN hnn v ds h hok tot htot hs h32 fl Ah nh ch Af nf cf hnh hnf hnf2 hnh2 hf' hx w ht hv rT rN rh rf).mono fun e w' ⟨h1, h2⟩ => ⟨An, nn, cn, h1, hN, rN.below h2, h2⟩
  | some r =>
   dsimp only
   obtain ⟨k1, k2, k3⟩ : r.x.length = 32 ∧ (∀ p ∈ r.l, p.2.length = 32) ∧ r.l.length ≤ 100000 := by
    unfold pExt at hx
    split at hx
    ·obtain ⟨hx, _⟩ := Option.filter_eq_some_iff.1 hx
     obtain ⟨_, _, _, p4, p5, p6, p7⟩ := pRd_bounds tot fl hs h32 _ _ _ _ _ hx
     exact ⟨p6, p7, by omega⟩
    ·cases hx
   by_cases he : r.x = h.root
   ·rw [if_pos he]
    exact (WProve_ok As At An ns cs nt ct nn cn T hT hnt N hN hnn v ds h hok tot htot hs h32 fl Ah nh ch Af nf cf hnh hnf hnf2 hnh2 hf' r hx k1 k2 k3 he w ht hv rT rN rh rf).mono fun e w' ⟨A', c', h1, h2, h3⟩ => ⟨A', _, c', h1, rfl, h2, h3⟩
   ·rw [if_neg he]
    exact (WProve_root As At An ns cs nt ct nn cn T hT hnt N hN hnn v ds h hok tot htot hs h32 fl Ah nh ch Af nf cf hnh hnf hnf2 hnh2 hf' r hx k1 k2 he w ht hv rT rN rh rf).mono fun e w' ⟨h1, h2⟩ => ⟨An, nn, cn, h1, hN, rN.below h2, h2⟩
end Go.Proofs.YtobjgebojhjhnaaDoor
