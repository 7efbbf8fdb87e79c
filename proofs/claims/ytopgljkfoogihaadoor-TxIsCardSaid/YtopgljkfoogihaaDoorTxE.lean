/- florinref08.Same. -/
import Derived.Test.YtopgljkfoogihaaDoorTxG2
import Derived.Test.YtopgljkfoogihaaDoorPr4
import Derived.Test.YtopgljkfoogihaaDoorPr6
import Derived.Deep.Cut
namespace Go.Proofs.YtopgljkfoogihaaDoor
open Go.RowKit
theorem strNe {a b : List UInt8} (w : World) : (binOp .neq 9 (.string ⟨a.toArray⟩) (.string ⟨b.toArray⟩)).run Tryd.prog w = .ok (.bool (!(a == b))) w := by
  go_simp
theorem txOf_eq (ver lock ver' lock' : Nat) (l l' : List (TIn × Sl)) (m m' : List (TOut × Sl)) : txOf ver l m lock = txOf ver' l' m' lock' ↔ ver = ver' ∧ lock = lock' ∧ l.map (·.1) = l'.map (·.1) ∧ m.map (·.1) = m'.map (·.1) := by
  simp only [txOf, TTx.mk.injEq]
  constructor
  · rintro ⟨a, b, c, d⟩; exact ⟨a, d, b, c⟩
  · rintro ⟨a, b, c, d⟩; exact ⟨a, c, d, b⟩
theorem TIn.ext' {x y : TIn} (h1 : x.prev = y.prev) (h2 : x.idx = y.idx) (h3 : x.scr = y.scr) (h4 : x.seq = y.seq) : x = y := by cases x; cases y; simp_all
theorem TOut.ext' {x y : TOut} (h1 : x.val = y.val) (h2 : x.scr = y.scr) : x = y := by cases x; cases y; simp_all

set_option maxRecDepth 100000 in
set_option maxHeartbeats 4000000 in
theorem TSame_no (ver lock ver' lock' : Nat) (l l' : List (TIn × Sl)) (m m' : List (TOut × Sl)) (A1 A2 B1 B2 : Option Addr) (n1 n2 c1 c2 k1 k2 d1 d2 : Nat) (hn1 : l.length = n1) (hn2 : m.length = n2) (hk1 : l'.length = k1) (hk2 : m'.length = k2) (w : World)
    (b : Bool) (hb : b = true ↔ txOf ver l m lock = txOf ver' l' m' lock')(hne : ¬ (ver = ver' ∧ lock = lock' ∧ n1 = k1 ∧ n2 = k2)) :
    Calls Tryd.prog 11 #[.agg #[.int .u32 (ver : Int), .slice A1 n1 c1, .slice A2 n2 c2, .int .u32 (lock : Int)], .agg #[.int .u32 (ver' : Int), .slice B1 k1 d1, .slice B2 k2 d2, .int .u32 (lock' : Int)]] w fun e w' => e = .returned (.bool b) ∧ Below w.heap.size w w' := by
  rw [txOf_eq] at hb
  have hall : ¬ (ver = ver' ∧ lock = lock' ∧ n1 = k1 ∧ n2 = k2) → b = false := fun h => by
    cases b
    · rfl
    · obtain ⟨p1, p2, p3, p4⟩ := hb.1 rfl
      refine absurd ⟨p1, p2, ?_, ?_⟩ h
      · have := congrArg List.length p3; simpa [hn1, hk1] using this
      · have := congrArg List.length p4; simpa [hn2, hk2] using this
  obtain rfl := hall hne
  clear hb hall
  replace hn1 := Lib.hid hn1
  replace hn2 := Lib.hid hn2
  replace hk1 := Lib.hid hk1
  replace hk2 := Lib.hid hk2
  by_cases e1 : ver = ver'
  · subst e1
    by_cases e2 : lock = lock'
    · subst e2
      by_cases e3 : n1 = k1
      · subst e3
        have t3 : ((n2 : Int) != (k2 : Int)) = true := by simp; intro h; exact hne ⟨rfl, rfl, rfl, by omega⟩
        clear hne
        go_enter Tryd.func11, Tryd.ntmps11
        go_wp2
        go_ret
        exact ⟨rfl, ((Below.refl _ _).alloc (Nat.le_refl _) _).alloc (by simp) _⟩
      · have t3 : ((n1 : Int) != (k1 : Int)) = true := by simp; omega
        clear hne e3
        go_enter Tryd.func11, Tryd.ntmps11
        go_wp2
        go_ret
        exact ⟨rfl, ((Below.refl _ _).alloc (Nat.le_refl _) _).alloc (by simp) _⟩
    · have t3 : ((lock : Int) != (lock' : Int)) = true := by simp; omega
      clear hne e2
      go_enter Tryd.func11, Tryd.ntmps11
      go_wp2
      go_ret
      exact ⟨rfl, ((Below.refl _ _).alloc (Nat.le_refl _) _).alloc (by simp) _⟩
  · have t3 : ((ver : Int) != (ver' : Int)) = true := by simp; omega
    clear hne e1
    go_enter Tryd.func11, Tryd.ntmps11
    go_wp2
    go_ret
    exact ⟨rfl, ((Below.refl _ _).alloc (Nat.le_refl _) _).alloc (by simp) _⟩
set_option maxRecDepth 100000 in
set_option maxHeartbeats 4000000 in
theorem TSame_yes (ver lock : Nat) (l l' : List (TIn × Sl)) (m m' : List (TOut × Sl)) (A1 A2 B1 B2 : Option Addr) (n1 n2 c1 c2 d1 d2 : Nat) (hn1 : l.length = n1) (hn2 : m.length = n2) (hk1 : l'.length = n1) (hk2 : m'.length = n2) (hm1 : n1 ≤ 100000) (hm2 : n2 ≤ 100000) (w : World) (h1 : RdIns w A1 l) (h2 : RdOuts w A2 m) (g1 : RdIns w B1 l') (g2 : RdOuts w B2 m')
    (b : Bool) (hb : b = true ↔ txOf ver l m lock = txOf ver l' m' lock) :
    Calls Tryd.prog 11 #[.agg #[.int .u32 (ver : Int), .slice A1 n1 c1, .slice A2 n2 c2, .int .u32 (lock : Int)], .agg #[.int .u32 (ver : Int), .slice B1 n1 d1, .slice B2 n2 d2, .int .u32 (lock : Int)]] w fun e w' => e = .returned (.bool b) ∧ Below w.heap.size w w' := by
  rw [txOf_eq] at hb
  obtain ⟨W, hW⟩ : ∃ W, W = (w.alloc (.cells #[.int .u32 (ver : Int), .slice A1 n1 c1, .slice A2 n2 c2, .int .u32 (lock : Int)] 26)).alloc (.cells #[.int .u32 (ver : Int), .slice B1 n1 d1, .slice B2 n2 d2, .int .u32 (lock : Int)] 26) := ⟨_, rfl⟩
  obtain ⟨H, hH⟩ : ∃ H, H = w.heap.size := ⟨_, rfl⟩
  have bW : Below H w W := by rw [hW, hH]; exact ((Below.refl _ _).alloc (Nat.le_refl _) _).alloc (by simp) _
  have aW : Av W H 26 [.int .u32 (ver : Int), .slice A1 n1 c1, .slice A2 n2 c2, .int .u32 (lock : Int)] := by rw [hW, hH]; exact heap_alloc2_old _ _ _
  have rW : Av W (H + 1) 26 [.int .u32 (ver : Int), .slice B1 n1 d1, .slice B2 n2 d2, .int .u32 (lock : Int)] := by rw [hW, hH]; exact heap_alloc2_new _ _ _
  replace hn1 := Lib.hid hn1
  replace hn2 := Lib.hid hn2
  replace hk1 := Lib.hid hk1
  replace hk2 := Lib.hid hk2
  replace hW := Lib.hid hW
  replace hH := Lib.hid hH
  replace hb := Lib.hid hb
  have q0 := aW.cell 0 _ rfl
  have q1 := aW.cell 1 _ rfl
  have q2 := aW.cell 2 _ rfl
  have q3 := aW.cell 3 _ rfl
  have r0 := rW.cell 0 _ rfl
  have r1 := rW.cell 1 _ rfl
  have r2 := rW.cell 2 _ rfl
  have r3 := rW.cell 3 _ rfl
  go_enter Tryd.func11, Tryd.ntmps11
  go_upto_region 1 with fail
  rw [← hW.out, ← hH.out]
  go_wp2
  clear q0 q1 q2 q3 r0 r1 r2 r3
  go_loopw [5] (fun i wr => ∃ k : Nat, k ≤ n1 ∧ i = .int .i64 (k : Int) ∧ Hid ((l.take k).map (·.1) = (l'.take k).map (·.1)) ∧ Av wr H 26 [.int .u32 (ver : Int), .slice A1 n1 c1, .slice A2 n2 c2, .int .u32 (lock : Int)] ∧ Av wr (H + 1) 26 [.int .u32 (ver : Int), .slice B1 n1 d1, .slice B2 n2 d2, .int .u32 (lock : Int)] ∧ Below H w wr) (fun i _ => n1 - (intOf i).toNat)
  case atStart => exact ⟨0, by omega, rfl, Lib.hid (by simp), aW, rW, bW⟩
  case round =>
    clear aW rW bW
    obtain ⟨k, hk, rfl, hall, aw, rw', bw⟩ := hrel
    have bw0 : Below w.heap.size w wr := by rw [← hH.out]; exact bw
    have hHs : H ≤ wr.heap.size := by have := aw.lt; omega
    have q1 := aw.cell 1 _ rfl
    have r1 := rw'.cell 1 _ rfl
    by_cases hlt : k < n1
    · have t4 : decide ((k : Int) < (n1 : Int)) = true := by simp; omega
      obtain ⟨x, hx⟩ : ∃ x, l[k]? = some x := ⟨_, List.getElem?_eq_getElem (by rw [hn1.out]; exact hlt)⟩
      obtain ⟨y, hy⟩ : ∃ y, l'[k]? = some y := ⟨_, List.getElem?_eq_getElem (by rw [hk1.out]; exact hlt)⟩
      obtain ⟨b1, o1, rfl⟩ := h1.adr (by rw [hn1.out]; omega)
      obtain ⟨b2, o2, rfl⟩ := g1.adr (by rw [hk1.out]; omega)
      obtain ⟨hrx, hix⟩ := (h1.below bw0).nth k x hx
      obtain ⟨hry, hiy⟩ := (g1.below bw0).nth k y hy
      have hone := all_of (inc_one x)
      have hone2 := all_of (inc_one y)
      have hcl := inc_length hix
      have hcl2 := inc_length hiy
      obtain ⟨i32, i33, i34⟩ := inc_at hix
      obtain ⟨j32, j33, j34⟩ := inc_at hiy
      have hp32 : x.1.prev.length = 32 := hix.1.1
      have hp32' : y.1.prev.length = 32 := hiy.1.1
      have hsx := hix.2.1
      have hsy := hiy.2.1
      obtain ⟨cx, hcx⟩ : ∃ cs, cs = inc x := ⟨_, rfl⟩
      obtain ⟨cy, hcy⟩ : ∃ cs, cs = inc y := ⟨_, rfl⟩
      have hcx2 : cx = x.1.prev.map bv ++ [.int .u32 (x.1.idx : Int), .slice x.2.1 x.1.scr.length x.2.2, .int .u32 (x.1.seq : Int)] := hcx
      have hcy2 : cy = y.1.prev.map bv ++ [.int .u32 (y.1.idx : Int), .slice y.2.1 y.1.scr.length y.2.2, .int .u32 (y.1.seq : Int)] := hcy
      rw [← hcx] at hrx hcl hone i32 i33 i34
      rw [← hcy] at hry hcl2 hone2 j32 j33 j34
      obtain ⟨xp, hxp⟩ : ∃ p, p = x.1.prev := ⟨_, rfl⟩
      obtain ⟨yp, hyp⟩ : ∃ p, p = y.1.prev := ⟨_, rfl⟩
      obtain ⟨xi, hxi⟩ : ∃ i : Int, i = (x.1.idx : Int) := ⟨_, rfl⟩
      obtain ⟨yi, hyi⟩ : ∃ i : Int, i = (y.1.idx : Int) := ⟨_, rfl⟩
      obtain ⟨xq, hxq⟩ : ∃ i : Int, i = (x.1.seq : Int) := ⟨_, rfl⟩
      obtain ⟨yq, hyq⟩ : ∃ i : Int, i = (y.1.seq : Int) := ⟨_, rfl⟩
      obtain ⟨xs, hxs⟩ : ∃ i, i = x.1.scr := ⟨_, rfl⟩
      obtain ⟨ys, hys⟩ : ∃ i, i = y.1.scr := ⟨_, rfl⟩
      obtain ⟨xl, hxl⟩ : ∃ i, i = x.1.scr.length := ⟨_, rfl⟩
      obtain ⟨yl, hyl⟩ : ∃ i, i = y.1.scr.length := ⟨_, rfl⟩
      have hxl2 : xs.length = xl := by rw [hxs, hxl]
      have hyl2 : ys.length = yl := by rw [hys, hyl]
      rw [← hxp] at hcx2 hp32
      rw [← hyp] at hcy2 hp32'
      rw [← hxi] at hcx2 i32
      rw [← hyi] at hcy2 j32
      rw [← hxq] at hcx2 i34
      rw [← hyq] at hcy2 j34
      rw [← hxl] at hcx2 i33
      rw [← hyl] at hcy2 j33
      rw [← hxs] at hsx
      rw [← hys] at hsy
      have hne1 := neqP xp yp hp32 hp32'
      have hne2 := fun w => strNe (a := xs) (b := ys) w
      have hdec : x.1 = y.1 ↔ (xp = yp ∧ xi = yi ∧ xs = ys ∧ xq = yq) := by
        rw [hxp, hyp, hxi, hyi, hxs, hys, hxq, hyq]
        constructor
        · rintro h; rw [h]; exact ⟨rfl, rfl, rfl, rfl⟩
        · rintro ⟨e1, e2, e3, e4⟩; exact TIn.ext' e1 (by omega) e3 (by omega)
      have m0 : 0 ≤ (k : Int) := by omega
      have m1 : (k : Int) < (n1 : Int) := by omega
      clear hix hiy hxp hyp hxi hyi hxq hyq hxs hys hxl hyl
      replace i32 := Lib.hid i32
      replace i33 := Lib.hid i33
      replace i34 := Lib.hid i34
      replace j32 := Lib.hid j32
      replace j33 := Lib.hid j33
      replace j34 := Lib.hid j34
      replace hx := Lib.hid hx
      replace hy := Lib.hid hy
      replace hcx := Lib.hid hcx
      replace hcy := Lib.hid hcy
      replace hcx2 := Lib.hid hcx2
      replace hcy2 := Lib.hid hcy2
      replace hp32 := Lib.hid hp32
      replace hp32' := Lib.hid hp32'
      replace hdec := Lib.hid hdec
      replace hxl2 := Lib.hid hxl2
      replace hyl2 := Lib.hid hyl2
      replace hone2 := Lib.hid hone2
      replace hcl2 := Lib.hid hcl2
      replace hsx := Lib.hid hsx
      replace hsy := Lib.hid hsy
      replace hne1 := Lib.hid hne1
      replace hne2 := Lib.hid hne2
      go_upto_region 7 with (first
        | ((with_reducible refine wpList_loadMF 62 (b := b1) (off := o1 + k * 35) cx hrx ?_ _ Tryd.underlying62 ?_ ?_ ?_); rfl; rfl; (rw [hcl]; kernel_rfl))
        | ((with_reducible refine wpList_storeF 62 ((Below.refl wr.heap.size wr).alloc (Nat.le_refl _) _) (heap_alloc_new _ _) (Nat.le_refl _) cx ?_ ?_ 35 hcl ?_ ?_ hone ?_); rfl; rfl; kernel_rfl; rfl
           intro w3 a3 b3 k3 z3; clear k3; replace z3 := Lib.hid z3))
      have rw3 := rw'.below b3
      have r3 := rw3.cell 1 _ rfl
      have hry3 : w3.rangeAt b2 (o2 + k * 35) cy := ((g1.below (bw0.trans (b3.mono (by have := bw0.size; omega)))).nth k y hy.out).1 |> fun h => by rw [hcy.out]; exact h
      have hw3 : wr.heap.size < w3.heap.size := a3.lt
      have a3' := Lib.hid a3
      clear hry r1 q1 a3
      replace hcl := Lib.hid hcl
      replace hone := Lib.hid hone
      have hcl3 := hcl2.out
      have hone3 := hone2.out
      go_upto_region 8 with (first
        | ((with_reducible refine wpList_loadMF 62 (b := b2) (off := o2 + k * 35) cy hry3 ?_ _ Tryd.underlying62 ?_ ?_ ?_); rfl; rfl; (rw [hcl3]; kernel_rfl))
        | ((with_reducible refine wpList_storeF 62 ((Below.refl w3.heap.size w3).alloc (Nat.le_refl _) _) (heap_alloc_new _ _) (Nat.le_refl _) cy ?_ ?_ 35 hcl3 ?_ ?_ hone3 ?_); rfl; rfl; kernel_rfl; rfl
           intro w4 a4 b4 k4 z4; clear k4; replace z4 := Lib.hid z4))
      have a34 := a3'.out.below b4
      have y32 := a34.cell 32 _ i32.out
      have y33 := a34.cell 33 _ i33.out
      have y34 := a34.cell 34 _ i34.out
      have v32 := a4.cell 32 _ j32.out
      have v33 := a4.cell 33 _ j33.out
      have v34 := a4.cell 34 _ j34.out
      have hrp : w4.rangeAt wr.heap.size 0 (xp.map bv) := by
        rw [hcx2.out] at a34
        exact Av.rangeAt (pre := []) a34 0 rfl
      have hrp2 : w4.rangeAt w3.heap.size 0 (yp.map bv) := by
        rw [hcy2.out] at a4
        exact Av.rangeAt (pre := []) a4 0 rfl
      have b30 : Below w.heap.size w w3 := bw0.trans (b3.mono (by have := bw0.size; omega))
      have b40 : Below w.heap.size w w4 := b30.trans (b4.mono (by have := b30.size; omega))
      have aw4 := (aw.below b3).below b4
      have rw4 := rw3.below b4
      have bw4 : Below H w w4 := by rw [hH.out]; exact b40
      have hsx4 : Rd w4 x.2.1 (xs.map bv) := (hsx.out.below b3).below b4
      have hsy4 : Rd w4 y.2.1 (ys.map bv) := (hsy.out.below b3).below b4
      have hcv1 := conv_str hsx4 hxl2.out x.2.2
      have hcv2 := conv_str hsy4 hyl2.out y.2.2
      have hne1 := hne1.out
      have hne2 := hne2.out
      clear hsx4 hsy4 aw rw' rw3 hry3 hcl3 hone3 a34 a4 b3 b4 b30 hrx r3
      replace aw4 := Lib.hid aw4
      replace rw4 := Lib.hid rw4
      replace bw4 := Lib.hid bw4
      replace b40 := Lib.hid b40
      have hbf : ¬ (x.1 = y.1) → b = false := fun h => by
        cases b
        · rfl
        · obtain ⟨_, _, p3, _⟩ := hb.out.1 rfl
          have := congrArg (fun l : List TIn => l[k]?) p3
          simp only [List.getElem?_map, hx.out, hy.out, Option.map_some, Option.some.injEq] at this
          exact absurd this h
      rw [hdec.out] at hbf
      replace hbf := Lib.hid hbf
      by_cases e1 : xp = yp
      · have f1 : ∀ w, (binOp .neq 39 (.agg (xp.map bv).toArray) (.agg (yp.map bv).toArray)).run Tryd.prog w = .ok (.bool false) w := fun w => by rw [hne1 w, e1]; simp
        replace e1 := Lib.hid e1
        by_cases e2 : xi = yi
        · have t5 : (xi != yi) = false := by simp [e2]
          replace e2 := Lib.hid e2
          by_cases e3 : xs = ys
          · have f3 : ∀ w, (binOp .neq 9 (.string ⟨xs.toArray⟩) (.string ⟨ys.toArray⟩)).run Tryd.prog w = .ok (.bool false) w := fun w => by rw [hne2 w, e3]; simp
            replace e3 := Lib.hid e3
            by_cases e4 : xq = yq
            · have t6 : (xq != yq) = false := by simp [e4]
              replace e4 := Lib.hid e4
              clear hne1 hne2
              go_wp2_with (first
                | ((with_reducible refine wpList_loadMF 39 (b := wr.heap.size) (off := 0) (xp.map bv) hrp ?_ _ Tryd.underlying39 ?_ ?_ ?_); rfl; rfl; (rw [List.length_map, hp32.out]; kernel_rfl))
                | ((with_reducible refine wpList_loadMF 39 (b := w3.heap.size) (off := 0) (yp.map bv) hrp2 ?_ _ Tryd.underlying39 ?_ ?_ ?_); rfl; rfl; (rw [List.length_map, hp32'.out]; kernel_rfl)))
              refine ⟨⟨k + 1, by omega, by go_num, Lib.hid (map_take_step _ _ _ _ _ _ hx.out hy.out hall.out (hdec.out.2 ⟨e1.out, e2.out, e3.out, e4.out⟩)), aw4.out, rw4.out, bw4.out⟩, ?_⟩
              simp [intOf]; omega
            · have t6 : (xq != yq) = true := by simp [e4]
              obtain rfl := hbf.out fun h => e4 h.2.2.2
              clear hne1 hne2 e4
              go_wp2_with (first
                | ((with_reducible refine wpList_loadMF 39 (b := wr.heap.size) (off := 0) (xp.map bv) hrp ?_ _ Tryd.underlying39 ?_ ?_ ?_); rfl; rfl; (rw [List.length_map, hp32.out]; kernel_rfl))
                | ((with_reducible refine wpList_loadMF 39 (b := w3.heap.size) (off := 0) (yp.map bv) hrp2 ?_ _ Tryd.underlying39 ?_ ?_ ?_); rfl; rfl; (rw [List.length_map, hp32'.out]; kernel_rfl)))
              go_ret
              exact ⟨rfl, b40.out⟩
          · have f3 : ∀ w, (binOp .neq 9 (.string ⟨xs.toArray⟩) (.string ⟨ys.toArray⟩)).run Tryd.prog w = .ok (.bool true) w := fun w => by rw [hne2 w]; simp [e3]
            obtain rfl := hbf.out fun h => e3 h.2.2.1
            clear hne1 hne2
            replace e3 := Lib.hid e3
            go_wp2_with (first
              | ((with_reducible refine wpList_loadMF 39 (b := wr.heap.size) (off := 0) (xp.map bv) hrp ?_ _ Tryd.underlying39 ?_ ?_ ?_); rfl; rfl; (rw [List.length_map, hp32.out]; kernel_rfl))
              | ((with_reducible refine wpList_loadMF 39 (b := w3.heap.size) (off := 0) (yp.map bv) hrp2 ?_ _ Tryd.underlying39 ?_ ?_ ?_); rfl; rfl; (rw [List.length_map, hp32'.out]; kernel_rfl)))
            go_ret
            exact ⟨rfl, b40.out⟩
        · have t5 : (xi != yi) = true := by simp [e2]
          obtain rfl := hbf.out fun h => e2 h.2.1
          clear hne1 hne2 e2
          go_wp2_with (first
            | ((with_reducible refine wpList_loadMF 39 (b := wr.heap.size) (off := 0) (xp.map bv) hrp ?_ _ Tryd.underlying39 ?_ ?_ ?_); rfl; rfl; (rw [List.length_map, hp32.out]; kernel_rfl))
            | ((with_reducible refine wpList_loadMF 39 (b := w3.heap.size) (off := 0) (yp.map bv) hrp2 ?_ _ Tryd.underlying39 ?_ ?_ ?_); rfl; rfl; (rw [List.length_map, hp32'.out]; kernel_rfl)))
          go_ret
          exact ⟨rfl, b40.out⟩
      · have f1 : ∀ w, (binOp .neq 39 (.agg (xp.map bv).toArray) (.agg (yp.map bv).toArray)).run Tryd.prog w = .ok (.bool true) w := fun w => by rw [hne1 w]; simp [e1]
        obtain rfl := hbf.out fun h => e1 h.1
        clear hne1 hne2
        replace e1 := Lib.hid e1
        go_wp2_with (first
          | ((with_reducible refine wpList_loadMF 39 (b := wr.heap.size) (off := 0) (xp.map bv) hrp ?_ _ Tryd.underlying39 ?_ ?_ ?_); rfl; rfl; (rw [List.length_map, hp32.out]; kernel_rfl))
          | ((with_reducible refine wpList_loadMF 39 (b := w3.heap.size) (off := 0) (yp.map bv) hrp2 ?_ _ Tryd.underlying39 ?_ ?_ ?_); rfl; rfl; (rw [List.length_map, hp32'.out]; kernel_rfl)))
        go_ret
        exact ⟨rfl, b40.out⟩
    · obtain rfl : n1 = k := by omega
      have t4 : decide ((n1 : Int) < (n1 : Int)) = false := by simp
      have hl : l.map (·.1) = l'.map (·.1) := by
        have := hall.out
        rw [List.take_of_length_le (by rw [hn1.out]; omega), List.take_of_length_le (by rw [hk1.out]; omega)] at this
        exact this
      replace hl := Lib.hid hl
      clear hall
      have aw' := Lib.hid aw
      have rw2 := Lib.hid rw'
      have bw' := Lib.hid bw
      clear aw rw' bw r1
      go_wp2
      clear q1 bw0
      go_loopw [8] (fun i wr => ∃ j : Nat, j ≤ n2 ∧ i = .int .i64 (j : Int) ∧ Hid ((m.take j).map (·.1) = (m'.take j).map (·.1)) ∧ Av wr H 26 [.int .u32 (ver : Int), .slice A1 n1 c1, .slice A2 n2 c2, .int .u32 (lock : Int)] ∧ Av wr (H + 1) 26 [.int .u32 (ver : Int), .slice B1 n1 d1, .slice B2 n2 d2, .int .u32 (lock : Int)] ∧ Below H w wr) (fun i _ => n2 - (intOf i).toNat)
      case atStart => exact ⟨0, by omega, rfl, Lib.hid (by simp), aw'.out, rw2.out, bw'.out⟩
      case round =>
        clear aw' rw2 bw'
        obtain ⟨j, hj, rfl, hall, aw, rw', bw⟩ := hrel
        have bw0 : Below w.heap.size w wr := by rw [← hH.out]; exact bw
        have q1 := aw.cell 2 _ rfl
        by_cases hlt2 : j < n2
        · have t5 : decide ((j : Int) < (n2 : Int)) = true := by simp; omega
          obtain ⟨x, hx⟩ : ∃ x, m[j]? = some x := ⟨_, List.getElem?_eq_getElem (by rw [hn2.out]; exact hlt2)⟩
          obtain ⟨y, hy⟩ : ∃ y, m'[j]? = some y := ⟨_, List.getElem?_eq_getElem (by rw [hk2.out]; exact hlt2)⟩
          obtain ⟨b1, o1, rfl⟩ := h2.adr (by rw [hn2.out]; omega)
          obtain ⟨b2, o2, rfl⟩ := g2.adr (by rw [hk2.out]; omega)
          obtain ⟨hrx, hix⟩ := (h2.below bw0).nth j x hx
          obtain ⟨hry, hiy⟩ := (g2.below bw0).nth j y hy
          obtain ⟨xv, hxv⟩ : ∃ i : Int, i = (x.1.val : Int) := ⟨_, rfl⟩
          obtain ⟨yv, hyv⟩ : ∃ i : Int, i = (y.1.val : Int) := ⟨_, rfl⟩
          obtain ⟨xs, hxs⟩ : ∃ i, i = x.1.scr := ⟨_, rfl⟩
          obtain ⟨ys, hys⟩ : ∃ i, i = y.1.scr := ⟨_, rfl⟩
          obtain ⟨xl, hxl⟩ : ∃ i, i = x.1.scr.length := ⟨_, rfl⟩
          obtain ⟨yl, hyl⟩ : ∃ i, i = y.1.scr.length := ⟨_, rfl⟩
          have hsx := hix.2.1
          have hsy := hiy.2.1
          have hxl2 : xs.length = xl := by rw [hxs, hxl]
          have hyl2 : ys.length = yl := by rw [hys, hyl]
          have g0 := hrx 0 (.int .u64 xv) (by rw [hxv]; rfl)
          have g1 := hrx 1 (.slice x.2.1 xl x.2.2) (by rw [hxl]; rfl)
          have g3 := hry 0 (.int .u64 yv) (by rw [hyv]; rfl)
          have g4 := hry 1 (.slice y.2.1 yl y.2.2) (by rw [hyl]; rfl)
          rw [← hxs] at hsx
          rw [← hys] at hsy
          have hl0 := World.block_lt_of_cell? wr _ g0
          have hl1 := World.block_lt_of_cell? wr _ g3
          have G0 := Lib.hid (fun w' (hE : Ext wr.drew w') => (hE.drew.cell (p := ⟨b1, o1 + j * 2, none⟩) hl0).trans g0)
          have G1 := Lib.hid (fun w' (hE : Ext wr.drew w') => (hE.drew.cell (p := ⟨b1, o1 + j * 2 + 1, none⟩) hl0).trans g1)
          have G3 := Lib.hid (fun w' (hE : Ext wr.drew w') => (hE.drew.cell (p := ⟨b2, o2 + j * 2, none⟩) hl1).trans g3)
          have G4 := Lib.hid (fun w' (hE : Ext wr.drew w') => (hE.drew.cell (p := ⟨b2, o2 + j * 2 + 1, none⟩) hl1).trans g4)
          have HX := Lib.hid (fun w' (hE : Ext wr.drew w') => hsx.below hE.drew)
          have HY := Lib.hid (fun w' (hE : Ext wr.drew w') => hsy.below hE.drew)
          have hdec : x.1 = y.1 ↔ (xv = yv ∧ xs = ys) := by
            rw [hxv, hyv, hxs, hys]
            constructor
            · rintro h; rw [h]; exact ⟨rfl, rfl⟩
            · rintro ⟨e1, e2⟩; exact TOut.ext' (by omega) e2
          have hbf : ¬ (x.1 = y.1) → b = false := fun h => by
            cases b
            · rfl
            · obtain ⟨_, _, _, p3⟩ := hb.out.1 rfl
              have := congrArg (fun l : List TOut => l[j]?) p3
              simp only [List.getElem?_map, hx, hy, Option.map_some, Option.some.injEq] at this
              exact absurd this h
          have m0 : 0 ≤ (j : Int) := by omega
          have m1 : (j : Int) < (n2 : Int) := by omega
          have hs0 : (if xs = ys then true else true) = true := by simp
          rw [hdec] at hbf
          clear hix hiy hxv hyv hxs hys hxl hyl hrx hry g0 g1 g3 g4 hsx hsy hs0 hl0 hl1
          replace hx := Lib.hid hx
          replace hy := Lib.hid hy
          replace hdec := Lib.hid hdec
          replace hbf := Lib.hid hbf
          replace hxl2 := Lib.hid hxl2
          replace hyl2 := Lib.hid hyl2
          by_cases e1 : xv = yv
          · have t6 : (xv != yv) = false := by simp [e1]
            replace e1 := Lib.hid e1
            by_cases e3 : xs = ys
            · subst e3
              go_wp2_with fail
              refine wp_region_rel [] Ext (by kernel_rfl) (by kernel_rfl) (by kernel_rfl) Ext.refl Ext.trans (by intro p hp; cases hp) ?_
              refine relPure Ext.refl rfl rfl rfl rfl (fun w _ => by go_simp; first | done | rfl) (by simp only [List.set_cons_succ, List.set_cons_zero]; rfl) ?_
              refine relPure Ext.refl rfl rfl rfl rfl (c := .slice (some ⟨b1, o1, none⟩) n2 c2) (fun w hw => by have := (aw.below hw.drew).cell 2 _ rfl; go_simp; first | done | rfl) (by simp only [List.set_cons_succ, List.set_cons_zero]; rfl) ?_
              refine relMove Ext.refl rfl rfl rfl rfl _ (.inl rfl) (by conv => lhs; whnf) (by simp only [List.set_cons_succ, List.set_cons_zero]; rfl) ?_
              refine relPure Ext.refl rfl rfl rfl rfl (fun w _ => by go_simp; first | done | rfl) (by simp only [List.set_cons_succ, List.set_cons_zero]; rfl) ?_
              refine relPure Ext.refl rfl rfl rfl rfl (fun w _ => by go_simp; first | done | rfl) (by simp only [List.set_cons_succ, List.set_cons_zero]; rfl) ?_
              refine relPure Ext.refl rfl rfl rfl rfl (c := .int .u64 xv) (fun w hw => by have := G0.out w hw; go_simp; first | done | rfl) (by simp only [List.set_cons_succ, List.set_cons_zero]; rfl) ?_
              refine relPure Ext.refl rfl rfl rfl rfl (fun w _ => by go_simp; first | done | rfl) (by simp only [List.set_cons_succ, List.set_cons_zero]; rfl) ?_
              refine relPure Ext.refl rfl rfl rfl rfl (c := .slice (some ⟨b2, o2, none⟩) n2 d2) (fun w hw => by have := (rw'.below hw.drew).cell 2 _ rfl; go_simp; first | done | rfl) (by simp only [List.set_cons_succ, List.set_cons_zero]; rfl) ?_
              refine relMove Ext.refl rfl rfl rfl rfl _ (.inl rfl) (by conv => lhs; whnf) (by simp only [List.set_cons_succ, List.set_cons_zero]; rfl) ?_
              refine relPure Ext.refl rfl rfl rfl rfl (fun w _ => by go_simp; first | done | rfl) (by simp only [List.set_cons_succ, List.set_cons_zero]; rfl) ?_
              refine relPure Ext.refl rfl rfl rfl rfl (fun w _ => by go_simp; first | done | rfl) (by simp only [List.set_cons_succ, List.set_cons_zero]; rfl) ?_
              refine relPure Ext.refl rfl rfl rfl rfl (c := .int .u64 yv) (fun w hw => by have := G3.out w hw; go_simp; first | done | rfl) (by simp only [List.set_cons_succ, List.set_cons_zero]; rfl) ?_
              refine relPure Ext.refl rfl rfl rfl rfl (c := .bool false) (fun w _ => by go_simp; first | done | rfl) (by simp only [List.set_cons_succ, List.set_cons_zero]; rfl) ?_
              refine relMove Ext.refl rfl rfl rfl rfl _ (.inl rfl) (by conv => lhs; whnf) (by simp only [List.set_cons_succ, List.set_cons_zero]; rfl) ?_
              refine relPure Ext.refl rfl rfl rfl rfl (fun w _ => by go_simp; first | done | rfl) (by simp only [List.set_cons_succ, List.set_cons_zero]; rfl) ?_
              refine relPure Ext.refl rfl rfl rfl rfl (c := .slice (some ⟨b1, o1, none⟩) n2 c2) (fun w hw => by have := (aw.below hw.drew).cell 2 _ rfl; go_simp; first | done | rfl) (by simp only [List.set_cons_succ, List.set_cons_zero]; rfl) ?_
              refine relMove Ext.refl rfl rfl rfl rfl _ (.inl rfl) (by conv => lhs; whnf) (by simp only [List.set_cons_succ, List.set_cons_zero]; rfl) ?_
              refine relPure Ext.refl rfl rfl rfl rfl (fun w _ => by go_simp; first | done | rfl) (by simp only [List.set_cons_succ, List.set_cons_zero]; rfl) ?_
              refine relPure Ext.refl rfl rfl rfl rfl (fun w _ => by go_simp; first | done | rfl) (by simp only [List.set_cons_succ, List.set_cons_zero]; rfl) ?_
              refine relPure Ext.refl rfl rfl rfl rfl (c := .slice x.2.1 xl x.2.2) (fun w hw => by have := G1.out w hw; go_simp; first | done | rfl) (by simp only [List.set_cons_succ, List.set_cons_zero]; rfl) ?_
              refine relStr rfl rfl rfl rfl _ rfl rfl xs hxl2.out (fun w hw => HX.out w hw) (by simp only [List.set_cons_succ, List.set_cons_zero]; rfl) ?_
              refine relPure Ext.refl rfl rfl rfl rfl (fun w _ => by go_simp; first | done | rfl) (by simp only [List.set_cons_succ, List.set_cons_zero]; rfl) ?_
              refine relPure Ext.refl rfl rfl rfl rfl (c := .slice (some ⟨b2, o2, none⟩) n2 d2) (fun w hw => by have := (rw'.below hw.drew).cell 2 _ rfl; go_simp; first | done | rfl) (by simp only [List.set_cons_succ, List.set_cons_zero]; rfl) ?_
              refine relMove Ext.refl rfl rfl rfl rfl _ (.inl rfl) (by conv => lhs; whnf) (by simp only [List.set_cons_succ, List.set_cons_zero]; rfl) ?_
              refine relPure Ext.refl rfl rfl rfl rfl (fun w _ => by go_simp; first | done | rfl) (by simp only [List.set_cons_succ, List.set_cons_zero]; rfl) ?_
              refine relPure Ext.refl rfl rfl rfl rfl (fun w _ => by go_simp; first | done | rfl) (by simp only [List.set_cons_succ, List.set_cons_zero]; rfl) ?_
              refine relPure Ext.refl rfl rfl rfl rfl (c := .slice y.2.1 yl y.2.2) (fun w hw => by have := G4.out w hw; go_simp; first | done | rfl) (by simp only [List.set_cons_succ, List.set_cons_zero]; rfl) ?_
              refine relStr rfl rfl rfl rfl _ rfl rfl xs hyl2.out (fun w hw => HY.out w hw) (by simp only [List.set_cons_succ, List.set_cons_zero]; rfl) ?_
              refine relPure Ext.refl rfl rfl rfl rfl (c := .bool false) (fun w _ => by go_simp; first | done | rfl) (by simp only [List.set_cons_succ, List.set_cons_zero]; rfl) ?_
              refine relPick Ext.refl rfl rfl rfl rfl _ _ _ rfl rfl (by conv => lhs; whnf) (by simp only [List.set_cons_succ, List.set_cons_zero]; rfl) ?_
              refine relEnd fun w2 hw2 => fill_end ?_
              go_wp2
              refine ⟨⟨j + 1, by omega, by go_num, Lib.hid (map_take_step _ _ _ _ _ _ hx.out hy.out hall.out (hdec.out.2 ⟨e1.out, trivial⟩)), aw.below hw2.drew, rw'.below hw2.drew, bw.trans (hw2.drew.mono (by have := rw'.lt; omega))⟩, ?_⟩
              simp [intOf]; omega
            · have s1 : (xs == ys) = false := by simp [e3]
              obtain rfl := hbf.out fun h => e3 h.2
              go_wp2_with fail
              refine wp_region_rel [] Ext (by kernel_rfl) (by kernel_rfl) (by kernel_rfl) Ext.refl Ext.trans (by intro p hp; cases hp) ?_
              refine relPure Ext.refl rfl rfl rfl rfl (fun w _ => by go_simp; first | done | rfl) (by simp only [List.set_cons_succ, List.set_cons_zero]; rfl) ?_
              refine relPure Ext.refl rfl rfl rfl rfl (c := .slice (some ⟨b1, o1, none⟩) n2 c2) (fun w hw => by have := (aw.below hw.drew).cell 2 _ rfl; go_simp; first | done | rfl) (by simp only [List.set_cons_succ, List.set_cons_zero]; rfl) ?_
              refine relMove Ext.refl rfl rfl rfl rfl _ (.inl rfl) (by conv => lhs; whnf) (by simp only [List.set_cons_succ, List.set_cons_zero]; rfl) ?_
              refine relPure Ext.refl rfl rfl rfl rfl (fun w _ => by go_simp; first | done | rfl) (by simp only [List.set_cons_succ, List.set_cons_zero]; rfl) ?_
              refine relPure Ext.refl rfl rfl rfl rfl (fun w _ => by go_simp; first | done | rfl) (by simp only [List.set_cons_succ, List.set_cons_zero]; rfl) ?_
              refine relPure Ext.refl rfl rfl rfl rfl (c := .int .u64 xv) (fun w hw => by have := G0.out w hw; go_simp; first | done | rfl) (by simp only [List.set_cons_succ, List.set_cons_zero]; rfl) ?_
              refine relPure Ext.refl rfl rfl rfl rfl (fun w _ => by go_simp; first | done | rfl) (by simp only [List.set_cons_succ, List.set_cons_zero]; rfl) ?_
              refine relPure Ext.refl rfl rfl rfl rfl (c := .slice (some ⟨b2, o2, none⟩) n2 d2) (fun w hw => by have := (rw'.below hw.drew).cell 2 _ rfl; go_simp; first | done | rfl) (by simp only [List.set_cons_succ, List.set_cons_zero]; rfl) ?_
              refine relMove Ext.refl rfl rfl rfl rfl _ (.inl rfl) (by conv => lhs; whnf) (by simp only [List.set_cons_succ, List.set_cons_zero]; rfl) ?_
              refine relPure Ext.refl rfl rfl rfl rfl (fun w _ => by go_simp; first | done | rfl) (by simp only [List.set_cons_succ, List.set_cons_zero]; rfl) ?_
              refine relPure Ext.refl rfl rfl rfl rfl (fun w _ => by go_simp; first | done | rfl) (by simp only [List.set_cons_succ, List.set_cons_zero]; rfl) ?_
              refine relPure Ext.refl rfl rfl rfl rfl (c := .int .u64 yv) (fun w hw => by have := G3.out w hw; go_simp; first | done | rfl) (by simp only [List.set_cons_succ, List.set_cons_zero]; rfl) ?_
              refine relPure Ext.refl rfl rfl rfl rfl (c := .bool false) (fun w _ => by go_simp; first | done | rfl) (by simp only [List.set_cons_succ, List.set_cons_zero]; rfl) ?_
              refine relMove Ext.refl rfl rfl rfl rfl _ (.inl rfl) (by conv => lhs; whnf) (by simp only [List.set_cons_succ, List.set_cons_zero]; rfl) ?_
              refine relPure Ext.refl rfl rfl rfl rfl (fun w _ => by go_simp; first | done | rfl) (by simp only [List.set_cons_succ, List.set_cons_zero]; rfl) ?_
              refine relPure Ext.refl rfl rfl rfl rfl (c := .slice (some ⟨b1, o1, none⟩) n2 c2) (fun w hw => by have := (aw.below hw.drew).cell 2 _ rfl; go_simp; first | done | rfl) (by simp only [List.set_cons_succ, List.set_cons_zero]; rfl) ?_
              refine relMove Ext.refl rfl rfl rfl rfl _ (.inl rfl) (by conv => lhs; whnf) (by simp only [List.set_cons_succ, List.set_cons_zero]; rfl) ?_
              refine relPure Ext.refl rfl rfl rfl rfl (fun w _ => by go_simp; first | done | rfl) (by simp only [List.set_cons_succ, List.set_cons_zero]; rfl) ?_
              refine relPure Ext.refl rfl rfl rfl rfl (fun w _ => by go_simp; first | done | rfl) (by simp only [List.set_cons_succ, List.set_cons_zero]; rfl) ?_
              refine relPure Ext.refl rfl rfl rfl rfl (c := .slice x.2.1 xl x.2.2) (fun w hw => by have := G1.out w hw; go_simp; first | done | rfl) (by simp only [List.set_cons_succ, List.set_cons_zero]; rfl) ?_
              refine relStr rfl rfl rfl rfl _ rfl rfl xs hxl2.out (fun w hw => HX.out w hw) (by simp only [List.set_cons_succ, List.set_cons_zero]; rfl) ?_
              refine relPure Ext.refl rfl rfl rfl rfl (fun w _ => by go_simp; first | done | rfl) (by simp only [List.set_cons_succ, List.set_cons_zero]; rfl) ?_
              refine relPure Ext.refl rfl rfl rfl rfl (c := .slice (some ⟨b2, o2, none⟩) n2 d2) (fun w hw => by have := (rw'.below hw.drew).cell 2 _ rfl; go_simp; first | done | rfl) (by simp only [List.set_cons_succ, List.set_cons_zero]; rfl) ?_
              refine relMove Ext.refl rfl rfl rfl rfl _ (.inl rfl) (by conv => lhs; whnf) (by simp only [List.set_cons_succ, List.set_cons_zero]; rfl) ?_
              refine relPure Ext.refl rfl rfl rfl rfl (fun w _ => by go_simp; first | done | rfl) (by simp only [List.set_cons_succ, List.set_cons_zero]; rfl) ?_
              refine relPure Ext.refl rfl rfl rfl rfl (fun w _ => by go_simp; first | done | rfl) (by simp only [List.set_cons_succ, List.set_cons_zero]; rfl) ?_
              refine relPure Ext.refl rfl rfl rfl rfl (c := .slice y.2.1 yl y.2.2) (fun w hw => by have := G4.out w hw; go_simp; first | done | rfl) (by simp only [List.set_cons_succ, List.set_cons_zero]; rfl) ?_
              refine relStr rfl rfl rfl rfl _ rfl rfl ys hyl2.out (fun w hw => HY.out w hw) (by simp only [List.set_cons_succ, List.set_cons_zero]; rfl) ?_
              refine relPure Ext.refl rfl rfl rfl rfl (c := .bool true) (fun w _ => by go_simp; first | done | rfl) (by simp only [List.set_cons_succ, List.set_cons_zero]; rfl) ?_
              refine relPick Ext.refl rfl rfl rfl rfl _ _ _ rfl rfl (by conv => lhs; whnf) (by simp only [List.set_cons_succ, List.set_cons_zero]; rfl) ?_
              refine relEnd fun w2 hw2 => fill_end ?_
              go_wp2
              go_ret
              exact ⟨rfl, bw0.trans (hw2.drew.mono (by have := bw0.size; omega))⟩
          · have t6 : (xv != yv) = true := by simp [e1]
            obtain rfl := hbf.out fun h => e1 h.1
            clear e1
            go_wp2_with fail
            refine wp_region_rel [] Ext (by kernel_rfl) (by kernel_rfl) (by kernel_rfl) Ext.refl Ext.trans (by intro p hp; cases hp) ?_
            refine relPure Ext.refl rfl rfl rfl rfl (fun w _ => by go_simp; first | done | rfl) (by simp only [List.set_cons_succ, List.set_cons_zero]; rfl) ?_
            refine relPure Ext.refl rfl rfl rfl rfl (c := .slice (some ⟨b1, o1, none⟩) n2 c2) (fun w hw => by have := (aw.below hw.drew).cell 2 _ rfl; go_simp; first | done | rfl) (by simp only [List.set_cons_succ, List.set_cons_zero]; rfl) ?_
            refine relMove Ext.refl rfl rfl rfl rfl _ (.inl rfl) (by conv => lhs; whnf) (by simp only [List.set_cons_succ, List.set_cons_zero]; rfl) ?_
            refine relPure Ext.refl rfl rfl rfl rfl (fun w _ => by go_simp; first | done | rfl) (by simp only [List.set_cons_succ, List.set_cons_zero]; rfl) ?_
            refine relPure Ext.refl rfl rfl rfl rfl (fun w _ => by go_simp; first | done | rfl) (by simp only [List.set_cons_succ, List.set_cons_zero]; rfl) ?_
            refine relPure Ext.refl rfl rfl rfl rfl (c := .int .u64 xv) (fun w hw => by have := G0.out w hw; go_simp; first | done | rfl) (by simp only [List.set_cons_succ, List.set_cons_zero]; rfl) ?_
            refine relPure Ext.refl rfl rfl rfl rfl (fun w _ => by go_simp; first | done | rfl) (by simp only [List.set_cons_succ, List.set_cons_zero]; rfl) ?_
            refine relPure Ext.refl rfl rfl rfl rfl (c := .slice (some ⟨b2, o2, none⟩) n2 d2) (fun w hw => by have := (rw'.below hw.drew).cell 2 _ rfl; go_simp; first | done | rfl) (by simp only [List.set_cons_succ, List.set_cons_zero]; rfl) ?_
            refine relMove Ext.refl rfl rfl rfl rfl _ (.inl rfl) (by conv => lhs; whnf) (by simp only [List.set_cons_succ, List.set_cons_zero]; rfl) ?_
            refine relPure Ext.refl rfl rfl rfl rfl (fun w _ => by go_simp; first | done | rfl) (by simp only [List.set_cons_succ, List.set_cons_zero]; rfl) ?_
            refine relPure Ext.refl rfl rfl rfl rfl (fun w _ => by go_simp; first | done | rfl) (by simp only [List.set_cons_succ, List.set_cons_zero]; rfl) ?_
            refine relPure Ext.refl rfl rfl rfl rfl (c := .int .u64 yv) (fun w hw => by have := G3.out w hw; go_simp; first | done | rfl) (by simp only [List.set_cons_succ, List.set_cons_zero]; rfl) ?_
            refine relPure Ext.refl rfl rfl rfl rfl (c := .bool true) (fun w _ => by go_simp; first | done | rfl) (by simp only [List.set_cons_succ, List.set_cons_zero]; rfl) ?_
            refine relMove Ext.refl rfl rfl rfl rfl _ (.inl rfl) (by conv => lhs; whnf) (by simp only [List.set_cons_succ, List.set_cons_zero]; rfl) ?_
            refine relSkip rfl rfl rfl rfl (by simp only [List.set_cons_succ, List.set_cons_zero]; rfl) ?_
            refine relSkip rfl rfl rfl rfl (by simp only [List.set_cons_succ, List.set_cons_zero]; rfl) ?_
            refine relSkip rfl rfl rfl rfl (by simp only [List.set_cons_succ, List.set_cons_zero]; rfl) ?_
            refine relSkip rfl rfl rfl rfl (by simp only [List.set_cons_succ, List.set_cons_zero]; rfl) ?_
            refine relSkip rfl rfl rfl rfl (by simp only [List.set_cons_succ, List.set_cons_zero]; rfl) ?_
            refine relSkip rfl rfl rfl rfl (by simp only [List.set_cons_succ, List.set_cons_zero]; rfl) ?_
            refine relSkip rfl rfl rfl rfl (by simp only [List.set_cons_succ, List.set_cons_zero]; rfl) ?_
            refine relSkip rfl rfl rfl rfl (by simp only [List.set_cons_succ, List.set_cons_zero]; rfl) ?_
            refine relSkip rfl rfl rfl rfl (by simp only [List.set_cons_succ, List.set_cons_zero]; rfl) ?_
            refine relSkip rfl rfl rfl rfl (by simp only [List.set_cons_succ, List.set_cons_zero]; rfl) ?_
            refine relSkip rfl rfl rfl rfl (by simp only [List.set_cons_succ, List.set_cons_zero]; rfl) ?_
            refine relSkip rfl rfl rfl rfl (by simp only [List.set_cons_succ, List.set_cons_zero]; rfl) ?_
            refine relSkip rfl rfl rfl rfl (by simp only [List.set_cons_succ, List.set_cons_zero]; rfl) ?_
            refine relSkip rfl rfl rfl rfl (by simp only [List.set_cons_succ, List.set_cons_zero]; rfl) ?_
            refine relSkip rfl rfl rfl rfl (by simp only [List.set_cons_succ, List.set_cons_zero]; rfl) ?_
            refine relPick Ext.refl rfl rfl rfl rfl _ _ _ rfl rfl (by conv => lhs; whnf) (by simp only [List.set_cons_succ, List.set_cons_zero]; rfl) ?_
            refine relEnd fun w2 hw2 => fill_end ?_
            go_wp2
            go_ret
            exact ⟨rfl, bw0.trans (hw2.drew.mono (by have := bw0.size; omega))⟩
        · obtain rfl : n2 = j := by omega
          have t5 : decide ((n2 : Int) < (n2 : Int)) = false := by simp
          have hm : m.map (·.1) = m'.map (·.1) := by
            have := hall.out
            rw [List.take_of_length_le (by rw [hn2.out]; omega), List.take_of_length_le (by rw [hk2.out]; omega)] at this
            exact this
          obtain rfl := hb.out.2 ⟨trivial, trivial, hl.out, hm⟩
          clear hm
          go_wp2
          go_ret
          exact ⟨rfl, bw0⟩
end Go.Proofs.YtopgljkfoogihaaDoor
