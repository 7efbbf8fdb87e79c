/- florinlaw08.TxTouches: the walk. -/
import Derived.Test.YtopgljkfoogihaaTxO
import Derived.Test.YtopgljkfoogihaaTxF
import Derived.Test.YtopgljkfoogihaaTxC
import Derived.Test.YtopgljkfoogihaaBt
namespace Go.Proofs.Ytopgljkfoogihaa
open Go.RowKit
theorem infoBs : (Try.prog.info? 27).map (fun i => (i.size, i.bytes)) = some (1, 24) := by kernel_rfl
theorem zeroBs : (Try.prog.info? 27).map (fun i => (i.zero.map (·.cells.size))) = some (some 1) := by kernel_rfl
theorem infoHh : (Try.prog.info? 52).map (fun i => (i.size, i.bytes)) = some (32, 32) := by kernel_rfl
theorem zeroHh : (Try.prog.info? 52).map (fun i => (i.zero.map (·.cells.size))) = some (some 32) := by kernel_rfl
/-- 'append(s, x)', x a slice -/
theorem exec_buildS {P : Program} {t e : TypeId} {bytes : Nat} (ht : P.underlying t = some (.slice e)) (hi : (P.info? e).map (fun i => (i.size, i.bytes)) = some (1, bytes)) (hz : (P.info? e).map (fun i => (i.zero.map (·.cells.size))) = some (some 1))
    {o : Oper} {ρ : Operand → Value} (w : World) (A : Option Addr) (n c : Nat) (y : Operand) (ho : o.op = .buildSlice t 1 #[(0, y)]) (hy : ρ y = .slice A n c) :
    (execOp ρ o).run P w = .ok (.value (.slice (some ⟨w.heap.size, 0, none⟩) 1 1)) (w.alloc (.cells #[.slice A n c] e)) := by
  obtain ⟨i0, hi0, hz0⟩ := Option.map_eq_some_iff.1 hi
  obtain ⟨i1, hi1, hz1⟩ := Option.map_eq_some_iff.1 hz
  obtain rfl : i1 = i0 := by rw [hi0] at hi1; exact (Option.some.inj hi1).symm
  obtain ⟨z, hz2, hz3⟩ := Option.map_eq_some_iff.1 hz1
  injection hz0 with hz4 hz5
  have := run_buildSlice (P := P) w t e 1 #[(0, .slice A n c)] #[.slice A n c] i1 z ht hi0 hz2 (by rw [hz4]; omega) (by rw [hz4]; omega) (by
    rw [hz4]
    have := Great.fill_whole (s := 1) (by decide) [Value.slice A n c] ((Array.range (1 * 1)).map (z.cells[· % z.cells.size]!)) (fun v hv => by
      rw [List.mem_singleton.1 hv]; simp [Value.cells]) (by simp)
    simp only [List.zipIdx_cons, List.zipIdx_nil, List.map_cons, List.map_nil, Nat.zero_add] at this
    rw [this]
    simp [Value.cells])
  unfold execOp
  simp only [ho, Sem.run_bind, List.map_toArray, List.map_cons, List.map_nil, hy, this, Result.andThen_ok]
  rfl
theorem wpList_loadFg {P : Program} (ty : TypeId) {w : World} {g : Nat} {t : TypeId} {l : List Value} (h : Av w g t l) {ops : Array Oper} {rest : List Oper} {a : Act} {Q : Exit → Act → World → Prop} {d tp pos af gd} {x : Operand}
    (hw : Region.wanted ⟨d, .load ty x, tp, pos, af, gd⟩ (yielded ops a.tmps) = true) (hx : a.eval x = .pointer (some ⟨g, 0, none⟩)) (dd : TypeDesc) (n : Nat) (hn : l.length = n) (hu : P.underlying ty = some dd) (hd : (match dd with | .struct _ | .array _ _ => true | _ => false) = true) (hi : (P.info? ty).map (·.size) = some n)
    (k : wpList P ops Q rest (a.put d (.agg l.toArray)) w) : wpList P ops Q (⟨d, .load ty x, tp, pos, af, gd⟩ :: rest) a w :=
  wpList_execW hw (exec_loadAv h ty x rfl hx dd n hn hu hd hi) k
theorem slv_one (l : List (List UInt8 × Sl)) : ∀ u ∈ bsc l, u.oneCell' = true := by
  intro u hu
  obtain ⟨e, _, rfl⟩ := List.mem_map.1 hu
  rfl
theorem hsc_one (l : List (List UInt8)) : ∀ u ∈ hsc l, u.oneCell' = true := by
  intro u hu
  obtain ⟨e, _, h⟩ := List.mem_flatMap.1 hu
  exact bv_one e u h
theorem bsc_app (l : List (List UInt8 × Sl)) (e : List UInt8 × Sl) : bsc l ++ [slv e.1.length e.2] = bsc (l ++ [e]) := by simp [bsc]
theorem hsc_app (l : List (List UInt8)) (e : List UInt8) : hsc l ++ e.map bv = hsc (l ++ [e]) := by simp [hsc]
theorem own_made {w : World} {e : TypeId} {size : Nat} (base : Nat) (hb : base ≤ w.heap.size) : (w.alloc (.cells #[] e)).ownsRow base e size (.slice (some ⟨w.heap.size, 0, none⟩) 0 0) 0 [] :=
  World.ownsRow_made w #[] 0 hb (by simp only [maxLen]; omega) (by simp)
set_option maxRecDepth 100000 in
set_option maxHeartbeats 2000000 in
theorem touch_long (ver lock : Nat) (l : List (TIn × Sl)) (m : List (TOut × Sl)) (A1 A2 : Option Addr) (n1 n2 c1 c2 : Nat) (hn1 : l.length = n1) (hn2 : m.length = n2) (hm1 : n1 ≤ maxLen) (hm2 : n2 ≤ maxLen) (w : World) (h1 : RdIns w A1 l) (h2 : RdOuts w A2 m) (As : Option Addr) (ns cs : Nat) (Ah : Option Addr) (nh ch : Nat) (kk : Int) (hh : txFew (txOf ver l m lock) = false ∨ 20 < ns ∨ 20 < nh) : Calls Try.prog 5 #[.agg #[.int .u32 (ver : Int), .slice A1 n1 c1, .slice A2 n2 c2, .int .u32 (lock : Int)], .slice As ns cs, .slice Ah nh ch, .int .i64 kk] w fun e w' => e = .returned (.bool true) ∧ Below w.heap.size w w' := by
  obtain ⟨W, hW⟩ : ∃ W, W = w.alloc (.cells #[.int .u32 (ver : Int), .slice A1 n1 c1, .slice A2 n2 c2, .int .u32 (lock : Int)] 26) := ⟨_, rfl⟩
  obtain ⟨H, hH⟩ : ∃ H, H = w.heap.size := ⟨_, rfl⟩
  have bW : Below w.heap.size w W := by rw [hW]; exact (Below.refl _ _).alloc (Nat.le_refl _) _
  have aW : Av W H 26 [.int .u32 (ver : Int), .slice A1 n1 c1, .slice A2 n2 c2, .int .u32 (lock : Int)] := by rw [hW, hH]; exact heap_alloc_new _ _
  have HA := Lib.hid (awake8 W)
  have HF := fun w' q1 q2 => TFew ver lock l m A1 A2 n1 n2 c1 c2 hn1 hn2 hm1 hm2 w' q1 q2
  obtain ⟨fw, hfw⟩ : ∃ fw, fw = txFew (txOf ver l m lock) := ⟨_, rfl⟩
  rw [← hfw] at HF hh
  replace HF := Lib.hid HF
  replace hW := Lib.hid hW
  replace hH := Lib.hid hH
  clear hfw hn1 hn2
  cases fw
  · clear hh
    go_enter Try.func5, Try.ntmps5
    go_upto_region 1 with fail
    rw [← hW.out, ← hH.out]
    go_upto_region 2 with (go_at_call 6; refine (HA.out).mono ?_; rintro e w1 ⟨rfl, b1⟩)
    have bw1 : Below w.heap.size w w1 := bW.trans (b1.mono bW.size)
    have a1 := aW.below b1
    have p1 := h1.below bw1
    have p2 := h2.below bw1
    clear HA
    go_wp2_with (first
    | ((with_reducible refine wpList_loadF 26 a1 ?_ _ 4 ?_ Try.underlying26 ?_ ?_ ?_); rfl; rfl; rfl; kernel_rfl)
    | (go_at_call 7; refine (HF.out _ p1 p2).mono ?_; rintro e w2 ⟨rfl, b2⟩))
    go_ret
    exact ⟨rfl, bw1.trans (b2.mono bw1.size)⟩
  · by_cases hs : 20 < ns
    · have t1 : decide ((20 : Int) < (ns : Int)) = true := by simp; omega
      clear hh
      go_enter Try.func5, Try.ntmps5
      go_upto_region 1 with fail
      rw [← hW.out, ← hH.out]
      go_upto_region 2 with (go_at_call 6; refine (HA.out).mono ?_; rintro e w1 ⟨rfl, b1⟩)
      have bw1 : Below w.heap.size w w1 := bW.trans (b1.mono bW.size)
      have a1 := aW.below b1
      have p1 := h1.below bw1
      have p2 := h2.below bw1
      clear HA
      go_wp2_with (first
      | ((with_reducible refine wpList_loadF 26 a1 ?_ _ 4 ?_ Try.underlying26 ?_ ?_ ?_); rfl; rfl; rfl; kernel_rfl)
      | (go_at_call 7; refine (HF.out _ p1 p2).mono ?_; rintro e w2 ⟨rfl, b2⟩))
      go_ret
      exact ⟨rfl, bw1.trans (b2.mono bw1.size)⟩
    · have t1 : decide ((20 : Int) < (ns : Int)) = false := by simp; omega
      have t2 : decide ((20 : Int) < (nh : Int)) = true := by
        rcases hh with h | h | h
        · cases h
        · exact absurd h hs
        · simp; omega
      clear hh
      go_enter Try.func5, Try.ntmps5
      go_upto_region 1 with fail
      rw [← hW.out, ← hH.out]
      go_upto_region 2 with (go_at_call 6; refine (HA.out).mono ?_; rintro e w1 ⟨rfl, b1⟩)
      have bw1 : Below w.heap.size w w1 := bW.trans (b1.mono bW.size)
      have a1 := aW.below b1
      have p1 := h1.below bw1
      have p2 := h2.below bw1
      clear HA
      go_wp2_with (first
      | ((with_reducible refine wpList_loadF 26 a1 ?_ _ 4 ?_ Try.underlying26 ?_ ?_ ?_); rfl; rfl; rfl; kernel_rfl)
      | (go_at_call 7; refine (HF.out _ p1 p2).mono ?_; rintro e w2 ⟨rfl, b2⟩))
      go_ret
      exact ⟨rfl, bw1.trans (b2.mono bw1.size)⟩

set_option maxRecDepth 100000 in
set_option maxHeartbeats 8000000 in
theorem touch_few (ver lock : Nat) (l : List (TIn × Sl)) (m : List (TOut × Sl)) (A1 A2 : Option Addr) (n1 n2 c1 c2 : Nat) (hn1 : l.length = n1) (hn2 : m.length = n2) (hm1 : n1 ≤ maxLen) (hm2 : n2 ≤ maxLen) (w : World) (h1 : RdIns w A1 l) (h2 : RdOuts w A2 m) (hv : ver < 4294967296) (hlk : lock < 4294967296) (S : List (List UInt8 × Sl)) (As : Option Addr) (ns cs : Nat) (hns : S.length = ns) (rs : RdBss w As S) (Hs : List (List UInt8)) (Ah : Option Addr) (nh ch : Nat) (hnh : Hs.length = nh) (rh : RdHs w Ah Hs) (kk : Int) (hf : txFew (txOf ver l m lock) = true) (hs : ns ≤ 20) (hh : nh ≤ 20) (ao ai : Bool) (hao : outT (m.map (·.1)) (S.map (·.1)) = ao) (hai : insT (l.map (·.1)) Hs = ai) : Calls Try.prog 5 #[.agg #[.int .u32 (ver : Int), .slice A1 n1 c1, .slice A2 n2 c2, .int .u32 (lock : Int)], .slice As ns cs, .slice Ah nh ch, .int .i64 kk] w fun e w' => e = .returned (.bool true) ∧ Below w.heap.size w w' := by
  obtain ⟨W, hW⟩ : ∃ W, W = w.alloc (.cells #[.int .u32 (ver : Int), .slice A1 n1 c1, .slice A2 n2 c2, .int .u32 (lock : Int)] 26) := ⟨_, rfl⟩
  obtain ⟨H, hH⟩ : ∃ H, H = w.heap.size := ⟨_, rfl⟩
  have bW : Below w.heap.size w W := by rw [hW]; exact (Below.refl _ _).alloc (Nat.le_refl _) _
  have aW : Av W H 26 [.int .u32 (ver : Int), .slice A1 n1 c1, .slice A2 n2 c2, .int .u32 (lock : Int)] := by rw [hW, hH]; exact heap_alloc_new _ _
  have HA := Lib.hid (awake8 W)
  have HF := fun w' q1 q2 => TFew ver lock l m A1 A2 n1 n2 c1 c2 hn1 hn2 hm1 hm2 w' q1 q2
  have t1 : decide ((20 : Int) < (ns : Int)) = false := by simp; omega
  have t2 : decide ((20 : Int) < (nh : Int)) = false := by simp; omega
  rw [hf] at HF
  obtain ⟨_, _, f1, f2⟩ := (txFew_iff _).1 hf
  simp only [txOf, List.length_map, hn1, hn2] at f1 f2
  have HO := fun w' q1 q2 => TOurs ver lock hv hlk l m A1 A2 n1 n2 c1 c2 hn1 hn2 (by omega) (by omega) w' q1 q2
  have T1 := fun B1 B2 e1 e2 w' q1 q2 q3 => TTouch ver lock l m B1 B2 n1 n2 e1 e2 hn1 hn2 (by omega) (by omega) S As ns cs hns (by omega) [] none 0 0 rfl (by omega) w' q1 q2 q3 (RdHs.nil _ _) ao (by rw [txT, insT_nil, Bool.or_false]; exact hao)
  have T2 := fun B1 B2 e1 e2 w' q1 q2 q3 => TTouch ver lock l m B1 B2 n1 n2 e1 e2 hn1 hn2 (by omega) (by omega) [] none 0 0 rfl (by omega) Hs Ah nh ch hnh (by omega) w' q1 q2 (RdBss.nil _ _) q3 ai (by rw [txT, List.map_nil, outT_nil, Bool.false_or]; exact hai)
  have T0 := fun B1 B2 e1 e2 w' q1 q2 => TTouch ver lock l m B1 B2 n1 n2 e1 e2 hn1 hn2 (by omega) (by omega) [] none 0 0 rfl (by omega) [] none 0 0 rfl (by omega) w' q1 q2 (RdBss.nil _ _) (RdHs.nil _ _) false (by rw [txT, List.map_nil, outT_nil, insT_nil]; rfl)
  have T3 := fun B1 B2 e1 e2 w' q1 q2 q3 q4 => TTouch ver lock l m B1 B2 n1 n2 e1 e2 hn1 hn2 (by omega) (by omega) S As ns cs hns (by omega) Hs Ah nh ch hnh (by omega) w' q1 q2 q3 q4 (ao || ai) (by rw [← hao, ← hai]; rfl)
  have TZ := fun w' q3 q4 => TTouch 0 0 [] [] none none 0 0 0 0 rfl rfl (by omega) (by omega) S As ns cs hns (by omega) Hs Ah nh ch hnh (by omega) w' ⟨Rd.nil _ _, fun e he => by cases he⟩ ⟨Rd.nil _ _, fun e he => by cases he⟩ q3 q4 false (by rfl)
  rw [show (((0 : Nat) : Int)) = 0 from rfl] at TZ
  have T4 := fun (e : List UInt8 × Sl) (he : ∃ o ∈ m.map (·.1), o.scr = e.1) C d B1 B2 e1 e2 w' q1 q2 q3 => TTouch ver lock l m B1 B2 n1 n2 e1 e2 hn1 hn2 (by omega) (by omega) (S ++ [e]) C (ns + 1) d (by rw [List.length_append, hns]; rfl) (by omega) [] none 0 0 rfl (by omega) w' q1 q2 q3 (RdHs.nil _ _) true (by
    obtain ⟨x, hx, hxe⟩ := he
    rw [txT, insT_nil, Bool.or_false, List.map_append]
    exact outT_yes hx (List.mem_append_right _ (List.mem_singleton.2 rfl)) hxe)
  have T5 := fun (e : List UInt8) (he : ∃ o ∈ l.map (·.1), o.prev = e) C d B1 B2 e1 e2 w' q1 q2 q3 => TTouch ver lock l m B1 B2 n1 n2 e1 e2 hn1 hn2 (by omega) (by omega) [] none 0 0 rfl (by omega) (Hs ++ [e]) C (nh + 1) d (by rw [List.length_append, hnh]; rfl) (by omega) w' q1 q2 (RdBss.nil _ _) q3 true (by
    obtain ⟨x, hx, hxe⟩ := he
    rw [txT, List.map_nil, outT_nil, Bool.false_or]
    exact insT_yes hx (List.mem_append_right _ (List.mem_singleton.2 rfl)) hxe)
  replace HF := Lib.hid HF
  replace HO := Lib.hid HO
  replace T0 := Lib.hid T0
  replace T1 := Lib.hid T1
  replace T2 := Lib.hid T2
  replace TZ := Lib.hid TZ
  replace T4 := Lib.hid T4
  replace T5 := Lib.hid T5
  replace hW := Lib.hid hW
  replace hH := Lib.hid hH
  replace hn1 := Lib.hid hn1
  replace hn2 := Lib.hid hn2
  replace hns := Lib.hid hns
  replace hnh := Lib.hid hnh
  clear hf hao hai
  cases ao
  all_goals
    simp only [Bool.true_or, Bool.false_or] at T3
    replace T3 := Lib.hid T3
    go_enter Try.func5, Try.ntmps5
    go_upto_region 1 with fail
    rw [← hW.out, ← hH.out]
    go_upto_region 2 with (go_at_call 6; refine (HA.out).mono ?_; rintro e w1 ⟨rfl, b1⟩)
    have bw1 : Below w.heap.size w w1 := bW.trans (b1.mono bW.size)
    have a1 := aW.below b1
    have p1 := h1.below bw1
    have p2 := h2.below bw1
    clear HA
    go_upto_region 4 with (first
    | ((with_reducible refine wpList_loadF 26 a1 ?_ _ 4 ?_ Try.underlying26 ?_ ?_ ?_); rfl; rfl; rfl; kernel_rfl)
    | (go_at_call 7; refine (HF.out _ p1 p2).mono ?_; rintro e w2 ⟨rfl, b2⟩))
    have bw2 := bw1.trans (b2.mono bw1.size)
    have a2 := a1.below b2
    have p3 := p1.below b2
    have p4 := p2.below b2
    clear a1 p1 p2 HF
    go_upto_region 5 with (first
      | ((with_reducible refine wpList_loadF 26 a2 ?_ _ 4 ?_ Try.underlying26 ?_ ?_ ?_); rfl; rfl; rfl; kernel_rfl)
      | (go_at_call 9; refine (HO.out _ p3 p4).mono ?_; rintro e w3 ⟨B1, B2, e1, e2, rfl, g1, g2, s1, s2, b3⟩)
      | ((with_reducible refine wpList_storeF 36 ((Below.refl w3.heap.size w3).alloc (Nat.le_refl _) _) (heap_alloc_new _ _) (Nat.le_refl _) [.int .u32 (ver : Int), .slice B1 n1 e1, .slice B2 n2 e2, .int .u32 (lock : Int)] ?_ ?_ 4 ?_ ?_ ?_ ?_ ?_); rfl; rfl; rfl; kernel_rfl; rfl; rfl
         intro w4 o4 b4 k4 z4; clear k4; replace z4 := Lib.hid z4))
    obtain ⟨go, hgo⟩ : ∃ g, g = w3.heap.size := ⟨_, rfl⟩
    rw [← hgo] at o4 ⊢
    have bw4 := (bw2.trans (b3.mono bw2.size)).trans (b4.mono (bw2.trans (b3.mono bw2.size)).size)
    have a4 := (a2.below b3).below b4
    replace s1 := s1.below b4
    replace s2 := s2.below b4
    have bo4 := Below.refl w4.heap.size w4
    clear a2 p3 p4 HO b4 z4
    replace hgo := Lib.hid hgo
    go_upto_region 9 with (first
      | ((with_reducible refine wpList_loadF 36 (o4.below bo4) ?_ _ 4 ?_ Try.underlying36 ?_ ?_ ?_); rfl; rfl; rfl; kernel_rfl)
      | (go_at_call 14; (with_reducible refine (T1.out _ _ _ _ _ (s1.below bo4) (s2.below bo4) (rs.below (bw4.trans (bo4.mono bw4.size)))).mono ?_); rintro e w5 ⟨rfl, b5⟩; have bo5 := bo4.trans (b5.mono bo4.size))
      | ((with_reducible refine wpList_loadF 36 (o4.below bo5) ?_ _ 4 ?_ Try.underlying36 ?_ ?_ ?_); rfl; rfl; rfl; kernel_rfl)
      | (go_at_call 14; (with_reducible refine (T2.out _ _ _ _ _ (s1.below bo5) (s2.below bo5) (rh.below (bw4.trans (bo5.mono bw4.size)))).mono ?_); rintro e w6 ⟨rfl, b6⟩; have bo6 := bo5.trans (b6.mono bo5.size))
      | ((with_reducible refine wpList_loadF 36 (o4.below bo6) ?_ _ 4 ?_ Try.underlying36 ?_ ?_ ?_); rfl; rfl; rfl; kernel_rfl)
      | (go_at_call 14; (with_reducible refine (T0.out _ _ _ _ _ (s1.below bo6) (s2.below bo6)).mono ?_); rintro e w7 ⟨rfl, b7⟩; have bo7 := bo6.trans (b7.mono bo6.size))
      | ((with_reducible refine wpList_loadFg 36 (o4.below bo7) ?_ ?_ _ 4 ?_ Try.underlying36 ?_ ?_ ?_); rfl; rfl; rfl; rfl; kernel_rfl)
      | (go_at_call 14; (with_reducible refine (T3.out _ _ _ _ _ (s1.below bo7) (s2.below bo7) (rs.below (bw4.trans (bo7.mono bw4.size))) (rh.below (bw4.trans (bo7.mono bw4.size)))).mono ?_); rintro e w8 ⟨rfl, b8⟩; have bo8 := bo7.trans (b8.mono bo7.size))
      | (go_at_call 14; (with_reducible refine (TZ.out _ (rs.below (bw4.trans (bo8.mono bw4.size))) (rh.below (bw4.trans (bo8.mono bw4.size)))).mono ?_); rintro e w9 ⟨rfl, b9⟩; have bo9 := bo8.trans (b9.mono bo8.size)))
    have bw9 := bw4.trans (bo9.mono bw4.size)
    by_cases z2 : 0 < n2
    · have t3 : decide ((0 : Int) < (n2 : Int)) = true := by simp; omega
      obtain ⟨q, i, hq, hq0, hqi, hqt, hiK⟩ := and_ffff_at kk n2 z2
      obtain ⟨x, hx⟩ : ∃ x, m[i]? = some x := ⟨_, List.getElem?_eq_getElem (by rw [hn2.out]; exact hiK)⟩
      obtain ⟨b1, o1, rfl⟩ := h2.adr (by rw [hn2.out]; exact z2)
      have m0 : 0 ≤ (i : Int) := by omega
      have m1 : (i : Int) < (n2 : Int) := by omega
      have m2 : ¬ n2 = 0 := by omega
      have a9 := a4.below bo9
      have a92 := a9.cell 2 _ rfl
      have hm9 := own_made (w := w9) (e := 27) (size := 1) w9.heap.size (Nat.le_refl _)
      have hb9 := (Below.refl w9.heap.size w9).alloc (Nat.le_refl _) (.cells #[] 27)
      have hrS := ((rs.below bw9).below hb9).1
      replace hx := Lib.hid hx
      replace hq := Lib.hid hq
      replace hqi := Lib.hid hqi
      replace hqt := Lib.hid hqt
      go_upto_region 11 with (at_builtin; refine wpList_appE Try.underlying45 infoBs zeroBs (by decide) hm9 (by simp) (bsc S) ns cs hrS (by rw [bsc, List.length_map, hns.out, Nat.mul_one]) (slv_one S) (by omega) (by omega) rfl (.tmp 61) (.tmp 62) rfl rfl rfl ?_; intro v10 w10 o10 gr10 ob10; rw [Nat.zero_add, List.nil_append] at o10; obtain ⟨B10, d10, rfl, hd10, _⟩ := own_form o10)
      have b10 := own_app hb9 hm9 gr10 (by simp)
      have bo10 := bo9.trans (b10.mono bo9.size)
      have bw10 := bw9.trans (b10.mono bw9.size)
      have a10 := a4.below bo10
      obtain ⟨hrx, hix⟩ := (h2.below bw10).nth i x hx.out
      obtain ⟨xl, hxl⟩ : ∃ n, n = x.1.scr.length := ⟨_, rfl⟩
      have g1 := hrx 1 (.slice x.2.1 xl x.2.2) (by rw [hxl]; rfl)
      have hl0 := World.block_lt_of_cell? w10 _ g1
      have G1 := Lib.hid (fun w' (hE : Ext w10.drew w') => (hE.drew.cell (p := ⟨b1, o1 + i * 2 + 1, none⟩) hl0).trans g1)
      clear a92 hm9 hb9 hrS gr10 ob10 hrx hl0 a9
      replace g1 := trivial
      replace hxl := Lib.hid hxl
      have hq := hq.out
      have hqi := hqi.out
      have hqt := hqt.out
      go_wp2_with fail
      refine wp_region_relT 13 [(12, OneW [.slice x.2.1 xl x.2.2])] Ext (by kernel_rfl) (by kernel_rfl) (by kernel_rfl) (by kernel_rfl) (by kernel_rfl) Ext.refl Ext.trans (by intro p hp v w w' hR; simp only [List.mem_singleton] at hp; subst hp; exact OneW.mono hR) ?_
      refine relMove Ext.refl rfl rfl rfl rfl _ (.inl rfl) (by conv => lhs; whnf) (by simp only [List.set_cons_succ, List.set_cons_zero]; rfl) ?_
      refine relPure Ext.refl rfl rfl rfl rfl (fun w _ => by go_simp; first | done | rfl) (by simp only [List.set_cons_succ, List.set_cons_zero]; rfl) ?_
      refine relPure Ext.refl rfl rfl rfl rfl (c := .slice (some ⟨b1, o1, none⟩) n2 c2) (fun w hw => by have := (a10.below hw.drew).cell 2 _ rfl; go_simp; first | done | rfl) (by simp only [List.set_cons_succ, List.set_cons_zero]; rfl) ?_
      refine relMove Ext.refl rfl rfl rfl rfl _ (.inl rfl) (by conv => lhs; whnf) (by simp only [List.set_cons_succ, List.set_cons_zero]; rfl) ?_
      refine relPure Ext.refl rfl rfl rfl rfl (c := .int .i64 q) (fun w _ => by go_simp; first | done | rfl) (by simp only [List.set_cons_succ, List.set_cons_zero]; rfl) ?_
      refine relPure Ext.refl rfl rfl rfl rfl (fun w _ => by go_simp; first | done | rfl) (by simp only [List.set_cons_succ, List.set_cons_zero]; rfl) ?_
      refine relPure Ext.refl rfl rfl rfl rfl (c := .slice (some ⟨b1, o1, none⟩) n2 c2) (fun w hw => by have := (a10.below hw.drew).cell 2 _ rfl; go_simp; first | done | rfl) (by simp only [List.set_cons_succ, List.set_cons_zero]; rfl) ?_
      refine relPure Ext.refl rfl rfl rfl rfl (fun w _ => by go_simp; first | done | rfl) (by simp only [List.set_cons_succ, List.set_cons_zero]; rfl) ?_
      refine relPure Ext.refl rfl rfl rfl rfl (c := .int .i64 (i : Int)) (fun w _ => by go_simp; first | done | rfl) (by simp only [List.set_cons_succ, List.set_cons_zero]; rfl) ?_
      refine relPure Ext.refl rfl rfl rfl rfl (fun w _ => by go_simp; first | done | rfl) (by simp only [List.set_cons_succ, List.set_cons_zero]; rfl) ?_
      refine relPure Ext.refl rfl rfl rfl rfl (fun w _ => by go_simp; first | done | rfl) (by simp only [List.set_cons_succ, List.set_cons_zero]; rfl) ?_
      refine relPure Ext.refl rfl rfl rfl rfl (c := .slice x.2.1 xl x.2.2) (fun w hw => by have := G1.out w hw; go_simp; first | done | rfl) (by simp only [List.set_cons_succ, List.set_cons_zero]; rfl) ?_
      refine relWord _ rfl (fun w hw => fill_none rfl (relOp_yes rfl ?_)) ?_
      · rw [exec_buildS Try.underlying45 infoBs zeroBs w x.2.1 xl x.2.2 _ rfl (by rw [eval_evL]; rfl)]
        exact ⟨(Below.refl _ _).alloc (Nat.le_refl _) _, _, rfl, Av.rd (t := 27) (heap_alloc_new _ _)⟩
      refine relEnd fun w11 hw11 => fill_take rfl rfl fun v' hv' => fill_end ?_
      simp only [List.set_cons_succ, List.set_cons_zero, List.drop_succ_cons, List.drop_zero]
      obtain ⟨D, rfl, hrb⟩ := hv'
      clear hq hqi hqt
      have o11 := own_below o10 hw11.drew
      have b11 := b10.trans (hw11.drew.mono b10.size)
      have hb11 : w9.heap.size ≤ w11.heap.size := b11.size
      go_upto_region 12 with (at_builtin; refine wpList_appE Try.underlying45 infoBs zeroBs (by decide) o11 hb11 [.slice x.2.1 xl x.2.2] 1 1 hrb rfl (by intro u hu; rw [List.mem_singleton.1 hu]; rfl) (by omega) (by omega) rfl (.tmp 64) (.tmp 76) rfl rfl rfl ?_; intro v12 w12 o12 gr12 ob12; obtain ⟨B12, d12, rfl, hd12, _⟩ := own_form o12)
      have b12 := own_app b11 o11 gr12 hb11
      have bo12 := bo9.trans (b12.mono bo9.size)
      have bw12 := bw9.trans (b12.mono bw9.size)
      have q12 : RdBss w12 B12 (S ++ [(x.1.scr, x.2)]) := by
        refine ⟨?_, fun e he => ?_⟩
        · rw [← bsc_app, slv, ← hxl.out]; exact own_rd o12
        · rcases List.mem_append.1 he with h | h
          · exact (rs.below bw12).2 e h
          · rw [List.mem_singleton.1 h]
            have := (h2.below bw12).2 x (List.mem_of_getElem? hx.out)
            exact this.2
      have hmem : ∃ o ∈ m.map (·.1), o.scr = (x.1.scr, x.2).1 := ⟨x.1, List.mem_map.2 ⟨x, List.mem_of_getElem? hx.out, rfl⟩, rfl⟩
      replace hmem := Lib.hid hmem
      clear o10 o11 o12 gr12 ob12 a10 hrb hw11 b10 b11 b12 G1
      go_upto_region 14 with (first
        | ((with_reducible refine wpList_loadF 36 (o4.below bo12) ?_ _ 4 ?_ Try.underlying36 ?_ ?_ ?_); rfl; rfl; rfl; kernel_rfl)
        | (go_at_call 14; (with_reducible refine (T4.out (x.1.scr, x.2) hmem.out _ _ _ _ _ _ _ (s1.below bo12) (s2.below bo12) q12).mono ?_); rintro e w13 ⟨rfl, b13⟩; have bo13 := bo12.trans (b13.mono bo12.size)))
      clear hmem q12 m0 m1 m2 t3 hq0 hiK bo12 bw12 hb11
      have bw13 := bw4.trans (bo13.mono bw4.size)
      by_cases z1 : 0 < n1
      · have t3 : decide ((0 : Int) < (n1 : Int)) = true := by simp; omega
        obtain ⟨q, i, hq, hq0, hqi, hqt, hiK⟩ := and_ffff_at kk n1 z1
        obtain ⟨x, hx⟩ : ∃ x, l[i]? = some x := ⟨_, List.getElem?_eq_getElem (by rw [hn1.out]; exact hiK)⟩
        obtain ⟨b1, o1, rfl⟩ := h1.adr (by rw [hn1.out]; exact z1)
        have m0 : 0 ≤ (i : Int) := by omega
        have m1 : (i : Int) < (n1 : Int) := by omega
        have m2 : ¬ n1 = 0 := by omega
        have a13 := a4.below bo13
        have a92 := a13.cell 1 _ rfl
        have hm13 := own_made (w := w13) (e := 52) (size := 32) w13.heap.size (Nat.le_refl _)
        have hb13 := (Below.refl w13.heap.size w13).alloc (Nat.le_refl _) (.cells #[] 52)
        have hrS := ((rh.below bw13).below hb13).1
        replace hx := Lib.hid hx
        replace hq := Lib.hid hq
        replace hqi := Lib.hid hqi
        replace hqt := Lib.hid hqt
        go_upto_region 16 with (at_builtin; refine wpList_appE Try.underlying46 infoHh zeroHh (by decide) hm13 (by simp) (hsc Hs) nh ch hrS (by rw [hsc_length Hs rh.2, hnh.out]) (hsc_one Hs) (by omega) (by omega) rfl (.tmp 86) (.tmp 87) rfl rfl rfl ?_; intro v14 w14 o14 gr14 ob14; rw [Nat.zero_add, List.nil_append] at o14; obtain ⟨B14, d14, rfl, hd14, _⟩ := own_form o14)
        have b14 := own_app hb13 hm13 gr14 (by simp)
        have bo14 := bo13.trans (b14.mono bo13.size)
        have bw14 := bw13.trans (b14.mono bw13.size)
        have a14 := a4.below bo14
        obtain ⟨hrx, hix⟩ := (h1.below bw14).nth i x hx.out
        obtain ⟨xp, hxp⟩ : ∃ n, n = x.1.prev := ⟨_, rfl⟩
        have hp32 : xp.length = 32 := by rw [hxp]; exact hix.1.1
        have hpl : (xp.map bv).length = 32 := by rw [List.length_map, hp32]
        have hrp : ∀ w', Ext w14.drew w' → w'.rangeAt b1 (o1 + i * 35) (xp.map bv) := fun w' hE => by
          have h := ((h1.below (bw14.trans (hE.drew.mono bw14.size))).nth i x hx.out).1
          rw [inc, ← hxp] at h
          intro j u hu
          exact h j u (by rw [List.getElem?_append_left ((List.getElem?_eq_some_iff.1 hu).1)]; exact hu)
        have G1 := Lib.hid hrp
        clear a92 hm13 hb13 hrS gr14 ob14 hrx a13 hrp
        replace hxp := Lib.hid hxp
        have hq := hq.out
        have hqi := hqi.out
        have hqt := hqt.out
        go_wp2_with fail
        refine wp_region_relT 13 [(12, OneW (xp.map bv))] Ext (by kernel_rfl) (by kernel_rfl) (by kernel_rfl) (by kernel_rfl) (by kernel_rfl) Ext.refl Ext.trans (by intro p hp v w w' hR; simp only [List.mem_singleton] at hp; subst hp; exact OneW.mono hR) ?_
        refine relMove Ext.refl rfl rfl rfl rfl _ (.inl rfl) (by conv => lhs; whnf) (by simp only [List.set_cons_succ, List.set_cons_zero]; rfl) ?_
        refine relPure Ext.refl rfl rfl rfl rfl (fun w _ => by go_simp; first | done | rfl) (by simp only [List.set_cons_succ, List.set_cons_zero]; rfl) ?_
        refine relPure Ext.refl rfl rfl rfl rfl (c := .slice (some ⟨b1, o1, none⟩) n1 c1) (fun w hw => by have := (a14.below hw.drew).cell 1 _ rfl; go_simp; first | done | rfl) (by simp only [List.set_cons_succ, List.set_cons_zero]; rfl) ?_
        refine relMove Ext.refl rfl rfl rfl rfl _ (.inl rfl) (by conv => lhs; whnf) (by simp only [List.set_cons_succ, List.set_cons_zero]; rfl) ?_
        refine relPure Ext.refl rfl rfl rfl rfl (c := .int .i64 q) (fun w _ => by go_simp; first | done | rfl) (by simp only [List.set_cons_succ, List.set_cons_zero]; rfl) ?_
        refine relPure Ext.refl rfl rfl rfl rfl (fun w _ => by go_simp; first | done | rfl) (by simp only [List.set_cons_succ, List.set_cons_zero]; rfl) ?_
        refine relPure Ext.refl rfl rfl rfl rfl (c := .slice (some ⟨b1, o1, none⟩) n1 c1) (fun w hw => by have := (a14.below hw.drew).cell 1 _ rfl; go_simp; first | done | rfl) (by simp only [List.set_cons_succ, List.set_cons_zero]; rfl) ?_
        refine relPure Ext.refl rfl rfl rfl rfl (fun w _ => by go_simp; first | done | rfl) (by simp only [List.set_cons_succ, List.set_cons_zero]; rfl) ?_
        refine relPure Ext.refl rfl rfl rfl rfl (c := .int .i64 (i : Int)) (fun w _ => by go_simp; first | done | rfl) (by simp only [List.set_cons_succ, List.set_cons_zero]; rfl) ?_
        refine relPure Ext.refl rfl rfl rfl rfl (fun w _ => by go_simp; first | done | rfl) (by simp only [List.set_cons_succ, List.set_cons_zero]; rfl) ?_
        refine relPure Ext.refl rfl rfl rfl rfl (fun w _ => by go_simp; first | done | rfl) (by simp only [List.set_cons_succ, List.set_cons_zero]; rfl) ?_
        refine relPure Ext.refl rfl rfl rfl rfl (c := .agg (xp.map bv).toArray) (fun w hw => exec_load_mid _ _ rfl b1 (o1 + i * 35) rfl (xp.map bv) _ (G1.out w hw) Try.underlying52 rfl (by rw [hpl]; kernel_rfl)) (by simp only [List.set_cons_succ, List.set_cons_zero]; rfl) ?_
        refine relWord _ rfl (fun w hw => fill_none rfl (relOp_yes rfl ?_)) ?_
        · rw [exec_build1 Try.underlying46 infoHh zeroHh (by decide) (by decide) w (xp.map bv) hpl _ rfl (by rw [eval_evL]; rfl)]
          exact ⟨(Below.refl _ _).alloc (Nat.le_refl _) _, _, rfl, Av.rd (t := 52) (heap_alloc_new _ _)⟩
        refine relEnd fun w15 hw15 => fill_take rfl rfl fun v' hv' => fill_end ?_
        simp only [List.set_cons_succ, List.set_cons_zero, List.drop_succ_cons, List.drop_zero]
        obtain ⟨D, rfl, hrb⟩ := hv'
        clear hq hqi hqt
        have o15 := own_below o14 hw15.drew
        have b15 := b14.trans (hw15.drew.mono b14.size)
        have hb15 : w13.heap.size ≤ w15.heap.size := b15.size
        go_upto_region 17 with (at_builtin; refine wpList_appE Try.underlying46 infoHh zeroHh (by decide) o15 hb15 (xp.map bv) 1 1 hrb (by rw [hpl]) (bv_one xp) (by omega) (by omega) rfl (.tmp 89) (.tmp 101) rfl rfl rfl ?_; intro v16 w16 o16 gr16 ob16; obtain ⟨B16, d16, rfl, hd16, _⟩ := own_form o16)
        have b16 := own_app b15 o15 gr16 hb15
        have bo16 := bo13.trans (b16.mono bo13.size)
        have q16 : RdHs w16 B16 (Hs ++ [xp]) := by
          refine ⟨?_, fun e he => ?_⟩
          · rw [← hsc_app]; exact own_rd o16
          · rcases List.mem_append.1 he with h | h
            · exact rh.2 e h
            · rw [List.mem_singleton.1 h]; exact hp32
        have hmem : ∃ o ∈ l.map (·.1), o.prev = xp := ⟨x.1, List.mem_map.2 ⟨x, List.mem_of_getElem? hx.out, rfl⟩, hxp.out.symm⟩
        replace hmem := Lib.hid hmem
        clear o14 o15 o16 gr16 ob16 a14 hrb hw15 b14 b15 b16 G1
        go_wp2_with (first
          | ((with_reducible refine wpList_loadF 36 (o4.below bo16) ?_ _ 4 ?_ Try.underlying36 ?_ ?_ ?_); rfl; rfl; rfl; kernel_rfl)
          | (go_at_call 14; (with_reducible refine (T5.out xp hmem.out _ _ _ _ _ _ _ (s1.below bo16) (s2.below bo16) q16).mono ?_); rintro e w17 ⟨rfl, b17⟩; have bo17 := bo16.trans (b17.mono bo16.size)))
        go_ret
        exact ⟨rfl, bw4.trans (bo17.mono bw4.size)⟩
      · have t3 : decide ((0 : Int) < (n1 : Int)) = false := by simp; omega
        have a92 := (a4.below bo13).cell 1 _ rfl
        go_wp2
        go_ret
        exact ⟨rfl, bw13⟩
    · have t3 : decide ((0 : Int) < (n2 : Int)) = false := by simp; omega
      have a92 := (a4.below bo9).cell 2 _ rfl
      go_upto_region 14 with fail
      clear a92 t3
      obtain ⟨w13, rfl⟩ : ∃ x : World, x = w9 := ⟨_, rfl⟩
      have bo13 := bo9
      have bw13 := bw4.trans (bo13.mono bw4.size)
      by_cases z1 : 0 < n1
      · have t3 : decide ((0 : Int) < (n1 : Int)) = true := by simp; omega
        obtain ⟨q, i, hq, hq0, hqi, hqt, hiK⟩ := and_ffff_at kk n1 z1
        obtain ⟨x, hx⟩ : ∃ x, l[i]? = some x := ⟨_, List.getElem?_eq_getElem (by rw [hn1.out]; exact hiK)⟩
        obtain ⟨b1, o1, rfl⟩ := h1.adr (by rw [hn1.out]; exact z1)
        have m0 : 0 ≤ (i : Int) := by omega
        have m1 : (i : Int) < (n1 : Int) := by omega
        have m2 : ¬ n1 = 0 := by omega
        have a13 := a4.below bo13
        have a92 := a13.cell 1 _ rfl
        have hm13 := own_made (w := w13) (e := 52) (size := 32) w13.heap.size (Nat.le_refl _)
        have hb13 := (Below.refl w13.heap.size w13).alloc (Nat.le_refl _) (.cells #[] 52)
        have hrS := ((rh.below bw13).below hb13).1
        replace hx := Lib.hid hx
        replace hq := Lib.hid hq
        replace hqi := Lib.hid hqi
        replace hqt := Lib.hid hqt
        go_upto_region 16 with (at_builtin; refine wpList_appE Try.underlying46 infoHh zeroHh (by decide) hm13 (by simp) (hsc Hs) nh ch hrS (by rw [hsc_length Hs rh.2, hnh.out]) (hsc_one Hs) (by omega) (by omega) rfl (.tmp 86) (.tmp 87) rfl rfl rfl ?_; intro v14 w14 o14 gr14 ob14; rw [Nat.zero_add, List.nil_append] at o14; obtain ⟨B14, d14, rfl, hd14, _⟩ := own_form o14)
        have b14 := own_app hb13 hm13 gr14 (by simp)
        have bo14 := bo13.trans (b14.mono bo13.size)
        have bw14 := bw13.trans (b14.mono bw13.size)
        have a14 := a4.below bo14
        obtain ⟨hrx, hix⟩ := (h1.below bw14).nth i x hx.out
        obtain ⟨xp, hxp⟩ : ∃ n, n = x.1.prev := ⟨_, rfl⟩
        have hp32 : xp.length = 32 := by rw [hxp]; exact hix.1.1
        have hpl : (xp.map bv).length = 32 := by rw [List.length_map, hp32]
        have hrp : ∀ w', Ext w14.drew w' → w'.rangeAt b1 (o1 + i * 35) (xp.map bv) := fun w' hE => by
          have h := ((h1.below (bw14.trans (hE.drew.mono bw14.size))).nth i x hx.out).1
          rw [inc, ← hxp] at h
          intro j u hu
          exact h j u (by rw [List.getElem?_append_left ((List.getElem?_eq_some_iff.1 hu).1)]; exact hu)
        have G1 := Lib.hid hrp
        clear a92 hm13 hb13 hrS gr14 ob14 hrx a13 hrp
        replace hxp := Lib.hid hxp
        have hq := hq.out
        have hqi := hqi.out
        have hqt := hqt.out
        go_wp2_with fail
        refine wp_region_relT 13 [(12, OneW (xp.map bv))] Ext (by kernel_rfl) (by kernel_rfl) (by kernel_rfl) (by kernel_rfl) (by kernel_rfl) Ext.refl Ext.trans (by intro p hp v w w' hR; simp only [List.mem_singleton] at hp; subst hp; exact OneW.mono hR) ?_
        refine relMove Ext.refl rfl rfl rfl rfl _ (.inl rfl) (by conv => lhs; whnf) (by simp only [List.set_cons_succ, List.set_cons_zero]; rfl) ?_
        refine relPure Ext.refl rfl rfl rfl rfl (fun w _ => by go_simp; first | done | rfl) (by simp only [List.set_cons_succ, List.set_cons_zero]; rfl) ?_
        refine relPure Ext.refl rfl rfl rfl rfl (c := .slice (some ⟨b1, o1, none⟩) n1 c1) (fun w hw => by have := (a14.below hw.drew).cell 1 _ rfl; go_simp; first | done | rfl) (by simp only [List.set_cons_succ, List.set_cons_zero]; rfl) ?_
        refine relMove Ext.refl rfl rfl rfl rfl _ (.inl rfl) (by conv => lhs; whnf) (by simp only [List.set_cons_succ, List.set_cons_zero]; rfl) ?_
        refine relPure Ext.refl rfl rfl rfl rfl (c := .int .i64 q) (fun w _ => by go_simp; first | done | rfl) (by simp only [List.set_cons_succ, List.set_cons_zero]; rfl) ?_
        refine relPure Ext.refl rfl rfl rfl rfl (fun w _ => by go_simp; first | done | rfl) (by simp only [List.set_cons_succ, List.set_cons_zero]; rfl) ?_
        refine relPure Ext.refl rfl rfl rfl rfl (c := .slice (some ⟨b1, o1, none⟩) n1 c1) (fun w hw => by have := (a14.below hw.drew).cell 1 _ rfl; go_simp; first | done | rfl) (by simp only [List.set_cons_succ, List.set_cons_zero]; rfl) ?_
        refine relPure Ext.refl rfl rfl rfl rfl (fun w _ => by go_simp; first | done | rfl) (by simp only [List.set_cons_succ, List.set_cons_zero]; rfl) ?_
        refine relPure Ext.refl rfl rfl rfl rfl (c := .int .i64 (i : Int)) (fun w _ => by go_simp; first | done | rfl) (by simp only [List.set_cons_succ, List.set_cons_zero]; rfl) ?_
        refine relPure Ext.refl rfl rfl rfl rfl (fun w _ => by go_simp; first | done | rfl) (by simp only [List.set_cons_succ, List.set_cons_zero]; rfl) ?_
        refine relPure Ext.refl rfl rfl rfl rfl (fun w _ => by go_simp; first | done | rfl) (by simp only [List.set_cons_succ, List.set_cons_zero]; rfl) ?_
        refine relPure Ext.refl rfl rfl rfl rfl (c := .agg (xp.map bv).toArray) (fun w hw => exec_load_mid _ _ rfl b1 (o1 + i * 35) rfl (xp.map bv) _ (G1.out w hw) Try.underlying52 rfl (by rw [hpl]; kernel_rfl)) (by simp only [List.set_cons_succ, List.set_cons_zero]; rfl) ?_
        refine relWord _ rfl (fun w hw => fill_none rfl (relOp_yes rfl ?_)) ?_
        · rw [exec_build1 Try.underlying46 infoHh zeroHh (by decide) (by decide) w (xp.map bv) hpl _ rfl (by rw [eval_evL]; rfl)]
          exact ⟨(Below.refl _ _).alloc (Nat.le_refl _) _, _, rfl, Av.rd (t := 52) (heap_alloc_new _ _)⟩
        refine relEnd fun w15 hw15 => fill_take rfl rfl fun v' hv' => fill_end ?_
        simp only [List.set_cons_succ, List.set_cons_zero, List.drop_succ_cons, List.drop_zero]
        obtain ⟨D, rfl, hrb⟩ := hv'
        clear hq hqi hqt
        have o15 := own_below o14 hw15.drew
        have b15 := b14.trans (hw15.drew.mono b14.size)
        have hb15 : w13.heap.size ≤ w15.heap.size := b15.size
        go_upto_region 17 with (at_builtin; refine wpList_appE Try.underlying46 infoHh zeroHh (by decide) o15 hb15 (xp.map bv) 1 1 hrb (by rw [hpl]) (bv_one xp) (by omega) (by omega) rfl (.tmp 89) (.tmp 101) rfl rfl rfl ?_; intro v16 w16 o16 gr16 ob16; obtain ⟨B16, d16, rfl, hd16, _⟩ := own_form o16)
        have b16 := own_app b15 o15 gr16 hb15
        have bo16 := bo13.trans (b16.mono bo13.size)
        have q16 : RdHs w16 B16 (Hs ++ [xp]) := by
          refine ⟨?_, fun e he => ?_⟩
          · rw [← hsc_app]; exact own_rd o16
          · rcases List.mem_append.1 he with h | h
            · exact rh.2 e h
            · rw [List.mem_singleton.1 h]; exact hp32
        have hmem : ∃ o ∈ l.map (·.1), o.prev = xp := ⟨x.1, List.mem_map.2 ⟨x, List.mem_of_getElem? hx.out, rfl⟩, hxp.out.symm⟩
        replace hmem := Lib.hid hmem
        clear o14 o15 o16 gr16 ob16 a14 hrb hw15 b14 b15 b16 G1
        go_wp2_with (first
          | ((with_reducible refine wpList_loadF 36 (o4.below bo16) ?_ _ 4 ?_ Try.underlying36 ?_ ?_ ?_); rfl; rfl; rfl; kernel_rfl)
          | (go_at_call 14; (with_reducible refine (T5.out xp hmem.out _ _ _ _ _ _ _ (s1.below bo16) (s2.below bo16) q16).mono ?_); rintro e w17 ⟨rfl, b17⟩; have bo17 := bo16.trans (b17.mono bo16.size)))
        go_ret
        exact ⟨rfl, bw4.trans (bo17.mono bw4.size)⟩
      · have t3 : decide ((0 : Int) < (n1 : Int)) = false := by simp; omega
        have a92 := (a4.below bo13).cell 1 _ rfl
        go_wp2
        go_ret
        exact ⟨rfl, bw13⟩
theorem law_TxTouches (ver lock : Nat) (l : List (TIn × Sl)) (m : List (TOut × Sl)) (A1 A2 : Option Addr) (n1 n2 c1 c2 : Nat) (hn1 : l.length = n1) (hn2 : m.length = n2) (hm1 : n1 ≤ maxLen) (hm2 : n2 ≤ maxLen) (w : World) (h1 : RdIns w A1 l) (h2 : RdOuts w A2 m) (hv : ver < 4294967296) (hlk : lock < 4294967296) (S : List (List UInt8 × Sl)) (As : Option Addr) (ns cs : Nat) (hns : S.length = ns) (rs : RdBss w As S) (Hs : List (List UInt8)) (Ah : Option Addr) (nh ch : Nat) (hnh : Hs.length = nh) (rh : RdHs w Ah Hs) (kk : Int) : Calls Try.prog 5 #[.agg #[.int .u32 (ver : Int), .slice A1 n1 c1, .slice A2 n2 c2, .int .u32 (lock : Int)], .slice As ns cs, .slice Ah nh ch, .int .i64 kk] w fun e w' => e = .returned (.bool true) ∧ Below w.heap.size w w' := by
  cases hf : txFew (txOf ver l m lock)
  · exact touch_long ver lock l m A1 A2 n1 n2 c1 c2 hn1 hn2 hm1 hm2 w h1 h2 As ns cs Ah nh ch kk (.inl hf)
  · by_cases hs : ns ≤ 20
    · by_cases hh : nh ≤ 20
      · exact touch_few ver lock l m A1 A2 n1 n2 c1 c2 hn1 hn2 hm1 hm2 w h1 h2 hv hlk S As ns cs hns rs Hs Ah nh ch hnh rh kk hf hs hh _ _ rfl rfl
      · exact touch_long ver lock l m A1 A2 n1 n2 c1 c2 hn1 hn2 hm1 hm2 w h1 h2 As ns cs Ah nh ch kk (.inr (.inr (by omega)))
    · exact touch_long ver lock l m A1 A2 n1 n2 c1 c2 hn1 hn2 hm1 hm2 w h1 h2 As ns cs Ah nh ch kk (.inr (.inl (by omega)))
end Go.Proofs.Ytopgljkfoogihaa
