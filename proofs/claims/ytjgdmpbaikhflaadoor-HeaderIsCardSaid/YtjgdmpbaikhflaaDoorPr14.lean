/- HdJ; HdZ: put together for the claim. -/
import Derived.Test.YtjgdmpbaikhflaaDoorHdL
import Derived.Test.YtjgdmpbaikhflaaDoorHdG
import Derived.Test.YtjgdmpbaikhflaaDoorPr11
/- header.GetAll. -/
namespace Go.Proofs.YtjgdmpbaikhflaaDoor
open Go.RowKit
attribute [local go_sem high] slB_lh slB_l slB_h
/-- so many headers more, behind those that were got -/
def hdFin : Nat → List Hd → List UInt8 → List Hd × Nat
  | 0, acc, b => if 0 < b.length then ([], 2) else (acc, 0)
  | k + 1, acc, b => if b.length ≤ 80 then ([], 1) else if b[80]? ≠ some 0 then ([], 2) else hdFin k (acc ++ [hdOf (b.take 80)]) (b.drop 81)
/-- what header.GetAll answers -/
def hdGets (b : List UInt8) : List Hd × Nat := if (Cm.bounded b 2000).2.2 ≠ 0 then ([], (Cm.bounded b 2000).2.2) else hdFin (Cm.bounded b 2000).1 [] (b.drop (Cm.bounded b 2000).2.1)
theorem infoHdR : (Tryd.prog.info? 26).map (fun i => (i.size, i.bytes)) = some (68, 80) := by kernel_rfl
theorem zeroHdR : (Tryd.prog.info? 26).map (fun i => (i.zero.map (·.cells.size))) = some (some 68) := by kernel_rfl
theorem cmb_le (l : List UInt8) (most : Nat) : (Cm.bounded l most).2.1 ≤ l.length ∧ (Cm.bounded l most).1 ≤ most := by
  have hg : (Cm.get l).2.1 ≤ l.length := by
    unfold Cm.get
    cases l with
    | nil => simp
    | cons b r =>
      dsimp only
      split
      · simp
      · split
        · simp
        · split
          · simp
          · simp only [List.length_cons]; omega
  unfold Cm.bounded
  split
  · simp
  · split
    · simp
    · rename_i h1 h2
      exact ⟨hg, by omega⟩
theorem RdHds.none (w : World) (A : Option Addr) : RdHds w A [] := ⟨Rd.nil w A, fun _ h => by cases h⟩
set_option maxRecDepth 10000 in
set_option maxHeartbeats 4000000 in
theorem HdGetAll (b : List UInt8) (A : Option Addr) (n c : Nat) (hn : b.length = n) (hc : n ≤ c) (hn2 : n ≤ 1000000) (w : World) (hr : Rd w A (b.map bv)) :
    Calls Tryd.prog 18 #[.slice A n c] w fun r w' => ∃ B m d, r = .returned (.tuple #[.slice B m d, .int .i64 ((hdGets b).2 : Int)]) ∧ (hdGets b).1.length = m ∧ m ≤ d ∧ RdHds w' B (hdGets b).1 ∧ Below w.heap.size w w' := by
  obtain ⟨X, K, E, hg⟩ : ∃ X K E, Cm.bounded b 2000 = (X, K, E) := ⟨_, _, _, rfl⟩
  have HB := Lib.hid (compact_Bounded b 2000 (by decide) X K E hg A n c w hr hn (by omega))
  obtain ⟨ans, hans⟩ : ∃ ans, ans = hdGets b := ⟨_, rfl⟩
  rw [← hans]
  have hK : K ≤ n := by have := (cmb_le b 2000).1; rw [hg] at this; rw [← hn]; exact this
  unfold hdGets at hans
  rw [hg] at hans
  dsimp only at hans
  by_cases hE : E = 0
  · subst hE
    rw [if_neg (by simp)] at hans
    have hX : X ≤ 2000 := by have := (cmb_le b 2000).2; rw [hg] at this; exact this
    have k0 : (0 : Int) ≤ (K : Int) := by omega
    have k1 : (K : Int) ≤ (n : Int) := by omega
    have HG := Lib.hid (fun (x : List UInt8) (A : Option Addr) (c : Nat) (h80 : x.length = 80) (hc : 80 ≤ c) (w : World) (r : Rd w A (x.map bv)) => HdGet_ok x A c h80 hc w r)
    have hz := zeros_68
    obtain ⟨zs, hzs⟩ : ∃ zs : List Value, zs = hdc ⟨0, List.replicate 32 0, List.replicate 32 0, 0, 0, 0⟩ := ⟨_, rfl⟩
    have hzl : zs.length = 68 := by rw [hzs]; rfl
    rw [← hzs] at hz
    clear hzs
    have r0 := hr.sub c K 1 (by rw [List.length_map, hn]; omega)
    rw [Nat.mul_one, ← List.map_drop] at r0
    have l0 : (b.drop K).length = n - K := by rw [List.length_drop, hn]
    replace hans := Lib.hid hans
    replace hzl := Lib.hid hzl
    replace hg := Lib.hid hg
    replace hn := Lib.hid hn
    replace l0 := Lib.hid l0
    replace r0 := Lib.hid r0
    go_enter Tryd.func18, Tryd.ntmps18
    go_wp2_with (go_at_call 34; refine (HB.out).mono ?_; rintro e w1 ⟨rfl, rfl⟩)
    go_loopw [0, 7, 23] (fun s v i wr => ∃ (j : Nat) (acc : List Hd) (x : List UInt8) (B : Option Addr) (m d : Nat), j ≤ X ∧ i = .int .i64 (j : Int) ∧ s = .slice B m d ∧ x.length = m ∧ m ≤ d ∧ m ≤ n ∧ acc.length = j ∧ OkHds acc ∧ wr.ownsRow w.heap.size 26 68 v j (hdl acc) ∧ Rd w B (x.map bv) ∧ Below w.heap.size w wr ∧ Hid (ans = hdFin (X - j) acc x)) (fun _ _ i _ => X - (intOf i).toNat)
    case atStart => 
      refine ⟨0, [], b.drop K, _, _, _, Nat.zero_le _, rfl, rfl, l0.out, ?_, ?_, rfl, ?_, World.ownsRow_nil _ _ _ _, r0.out, Below.refl _ _, hans⟩
      · omega
      · omega
      · intro u hu
        cases hu
    case round =>
      clear hans r0
      obtain ⟨j, acc, x, B, m, d, hj, rfl, rfl, hx, hmd, hmn, hacc, hok, ow, rxw, bw, hfin⟩ := hrel
      have rx := rxw.below bw
      replace hacc := Lib.hid hacc
      replace hx := Lib.hid hx
      by_cases hlt : j < X
      · have t2 : decide ((j : Int) < (X : Int)) = true := by simp; omega
        obtain ⟨k, hk⟩ : ∃ k, X - j = k + 1 := ⟨X - j - 1, by omega⟩
        have hf := hfin.out
        rw [hk, hdFin] at hf
        clear hfin
        by_cases h80 : m ≤ 80
        · have t3 : decide ((m : Int) ≤ 80) = true := by simp; omega
          rw [if_pos (by rw [hx.out]; exact h80)] at hf
          subst hf
          go_wp2
          go_ret2
          exact ⟨none, 0, 0, rfl, rfl, Nat.le_refl _, RdHds.none _ _, bw⟩
        · have t3 : decide ((m : Int) ≤ 80) = false := by simp; omega
          rw [if_neg (by rw [hx.out]; exact h80)] at hf
          have x80 : (x.take 80).length = 80 := by rw [List.length_take, hx.out]; omega
          have r80 := rx.take 80
          rw [← List.map_take] at r80
          obtain ⟨y, hy⟩ : ∃ y, x[80]? = some y := ⟨_, List.getElem?_eq_getElem (by rw [hx.out]; omega)⟩
          obtain ⟨bb, off, rfl⟩ := rx.someA (by intro h; have := congrArg List.length h; rw [List.length_map, hx.out] at this; simp at this; omega)
          have hcell : ∀ w', Rd w' (some ⟨bb, off, none⟩) (x.map bv) → w'.cell? ⟨bb, off + 80, none⟩ = some (bv y) := by
            intro w' h
            rcases h with h | ⟨b', o', hA, hc⟩
            · have := congrArg List.length h; rw [List.length_map, hx.out] at this; simp at this; omega
            · cases hA
              exact hc 80 _ (by rw [List.getElem?_map, hy]; rfl)
          obtain ⟨h, hh⟩ : ∃ h, h = hdOf (x.take 80) := ⟨_, rfl⟩
          have hhok : h.ok := by rw [hh]; exact hdOf_ok x80
          have HX := HG.out (x.take 80) (some ⟨bb, off, none⟩) d x80 (by omega) wr r80
          rw [← hh] at hf HX
          have h68 := Lib.hid (hdc_length hhok)
          have one := Lib.hid (List.all_eq_true.2 (hdc_one h))
          have d0 : (80 : Int) ≤ (d : Int) := by omega
          have m1 : (80 : Int) < (m : Int) := by omega
          have m2 : (81 : Int) ≤ (m : Int) := by omega
          rw [hy] at hf
          replace hf := Lib.hid hf
          replace hh := Lib.hid hh
          replace hy := Lib.hid hy
          replace HX := Lib.hid HX
          replace x80 := Lib.hid x80
          replace ow := Lib.hid ow
          go_upto_region 11 with (first
            | (go_at_call 15; refine (HX.out).mono ?_; rintro e w2 ⟨rfl, b2⟩)
            | ((with_reducible refine wpList_storeF 26 ((Below.refl w2.heap.size w2).alloc (Nat.le_refl _) _) (heap_alloc_new _ _) (Nat.le_refl _) (hdc h) ?_ ?_ 68 h68.out ?_ ?_ ?_ ?_); rfl; rfl; kernel_rfl; (rw [List.size_toArray]; exact hzl.out); exact one.out; intro w3 a3 b3 k3 z3; clear k3; replace z3 := Lib.hid z3))
          have b23 := b2.trans (b3.mono b2.size)
          have bw3 := bw.trans (b23.mono bw.size)
          have rx3 := rx.below b23
          have ow3 := own_below ow.out b23
          have c80 := hcell _ rx3
          clear ow rx r80
          by_cases hy0 : y = 0
          · have t4 : ((y.toNat : Int) != 0) = false := by rw [hy0]; rfl
            have hf2 := hf.out
            rw [if_neg (by rw [hy0]; simp)] at hf2
            replace hf2 := Lib.hid hf2
            replace hy0 := Lib.hid hy0
            have bb0 := bw3.size
            go_upto_region 16 with (first
              | ((with_reducible refine wpList_loadF 26 a3 ?_ _ 68 h68.out Tryd.underlying26 ?_ ?_ ?_); rfl; rfl; kernel_rfl)
              | ((with_reducible refine wpList_build1 Tryd.underlying34 infoHdR zeroHdR (by decide) (by decide) (hdc h) h68.out rfl ?_))
              | (at_builtin; refine wpList_appE Tryd.underlying34 infoHdR zeroHdR (by decide) (own_below ow3 ((Below.refl w3.heap.size w3).alloc (Nat.le_refl _) _)) (by simp; omega) (hdc h) 1 1 (Av.rd (t := 26) (heap_alloc_new _ _)) (by rw [h68.out]) (hdc_one h) (by omega) (by omega) rfl (.tmp 41) (.tmp 43) rfl rfl rfl ?_; intro v4 w4 o4 gr4 ob4; obtain ⟨B4, d4, rfl, _, _⟩ := own_form o4))
            have bw4 := own_app (bw3.alloc bw3.size _) (own_below ow3 ((Below.refl w3.heap.size w3).alloc (Nat.le_refl _) _)) gr4 (by simp; omega)
            have x81 : (x.drop 81).length = m - 81 := by rw [List.length_drop, hx.out]
            have rs := rxw.sub d 81 1 (by rw [List.length_map, hx.out]; omega)
            rw [Nat.mul_one, ← List.map_drop] at rs
            have el : hdl acc ++ hdc h = hdl (acc ++ [h]) := by simp [hdl]
            rw [el] at o4
            replace el := Lib.hid el
            replace x81 := Lib.hid x81
            go_wp2
            refine ⟨⟨j + 1, acc ++ [h], x.drop 81, _, _, _, by omega, by go_num, rfl, x81.out, by omega, by omega, by rw [List.length_append, hacc.out]; rfl, ?_, o4, rs, bw4, ?_⟩, ?_⟩
            · intro u hu
              rcases List.mem_append.1 hu with hu | hu
              · exact hok u hu
              · rw [List.mem_singleton.1 hu]; exact hhok
            · rw [show X - (j + 1) = k by omega]
              exact hf2
            · simp [intOf]; omega
          · have t4 : ((y.toNat : Int) != 0) = true := by
              simp only [bne_iff_ne, ne_eq]
              intro e
              exact hy0 (UInt8.toNat_inj.1 (by simpa using e))
            have hf2 := hf.out
            rw [if_pos (by intro e; exact hy0 (Option.some.inj e))] at hf2
            subst hf2
            clear hf
            go_wp2
            go_ret2
            exact ⟨none, 0, 0, rfl, rfl, Nat.le_refl _, RdHds.none _ _, bw3⟩
      · obtain rfl : j = X := by omega
        have t2 : decide ((j : Int) < (j : Int)) = false := by simp
        have hf := hfin.out
        rw [Nat.sub_self, hdFin] at hf
        clear hfin
        by_cases h0 : 0 < m
        · have t3 : decide ((0 : Int) < (m : Int)) = true := by simp; omega
          rw [if_pos (by rw [hx.out]; exact h0)] at hf
          subst hf
          go_wp2
          go_ret2
          exact ⟨none, 0, 0, rfl, rfl, Nat.le_refl _, RdHds.none _ _, bw⟩
        · have t3 : decide ((0 : Int) < (m : Int)) = false := by simp; omega
          rw [if_neg (by rw [hx.out]; exact h0)] at hf
          subst hf
          obtain ⟨B5, d5, rfl, hd5, _⟩ := own_form ow
          have rr := own_rd ow
          go_wp2
          go_ret2
          exact ⟨B5, j, d5, rfl, hacc.out, hd5, ⟨rr, hok⟩, bw⟩
  · rw [if_pos (by simpa using hE)] at hans
    subst hans
    have t1 : ((E : Int) != 0) = true := by simp; omega
    replace hn := Lib.hid hn
    replace hg := Lib.hid hg
    go_enter Tryd.func18, Tryd.ntmps18
    go_wp2_with (go_at_call 34; refine (HB.out).mono ?_; rintro e w1 ⟨rfl, rfl⟩)
    go_ret2
    exact ⟨none, 0, 0, rfl, rfl, Nat.le_refl _, RdHds.none _ _, Below.refl _ _⟩
end Go.Proofs.YtjgdmpbaikhflaaDoor
/- Headers' bytes, and what is got of them: plain laws. -/
namespace Go.Proofs.YtjgdmpbaikhflaaDoor
open Go.RowKit
theorem hdOf_put {h : Hd} (k : h.ok) : hdOf (hdB h) = h := by
  obtain ⟨k0, k1, k2, k3, k4, k5⟩ := k
  have m : ∀ n r, ((Cm.lo 4 n : List UInt8) ++ r).take 4 = Cm.lo 4 n := fun n r => by rw [List.take_append_of_le_length (by rw [Cm.lo_length]; exact Nat.le_refl _), List.take_of_length_le (by rw [Cm.lo_length]; exact Nat.le_refl _)]
  have d4 : ∀ (n j : Nat) (r : List UInt8), ((Cm.lo 4 n : List UInt8) ++ r).drop (4 + j) = r.drop j := fun n j r => by rw [← List.drop_drop, List.drop_left' (Cm.lo_length 4 n)]
  have d32 : ∀ (p : List UInt8) (_ : p.length = 32) (j : Nat) (r : List UInt8), (p ++ r).drop (32 + j) = r.drop j := fun p hp j r => by rw [← List.drop_drop, List.drop_left' hp]
  have t32 : ∀ (p : List UInt8) (_ : p.length = 32) (r : List UInt8), (p ++ r).take 32 = p := fun p hp r => by rw [List.take_append_of_le_length (by omega), List.take_of_length_le (by omega)]
  have le : ∀ n, n < 4294967296 → Cm.le (Cm.lo 4 n) = n := fun n h => by rw [Cm.le_lo]; exact Nat.mod_eq_of_lt h
  have m' : ∀ n, (Cm.lo 4 n : List UInt8).take 4 = Cm.lo 4 n := fun n => List.take_of_length_le (by rw [Cm.lo_length]; exact Nat.le_refl _)
  unfold hdOf hdB
  rw [m, le _ k0, show 4 = 4 + 0 from rfl, d4, List.drop_zero, t32 _ k1, show 36 = 4 + (32 + 0) from rfl, d4, d32 _ k1, List.drop_zero, t32 _ k2,
    show 68 = 4 + (32 + (32 + 0)) from rfl, d4, d32 _ k1, d32 _ k2, List.drop_zero, show 72 = 4 + (32 + (32 + (4 + 0))) from rfl, d4, d32 _ k1, d32 _ k2, d4, List.drop_zero,
    show 76 = 4 + (32 + (32 + (4 + (4 + 0)))) from rfl, d4, d32 _ k1, d32 _ k2, d4, d4, List.drop_zero]
  simp only [Nat.add_zero]
  rw [m, m, m', le _ k3, le _ k4, le _ k5]
theorem hdFin_put : ∀ (l acc : List Hd), OkHds l → hdFin l.length acc (l.flatMap fun h => hdB h ++ [0]) = (acc ++ l, 0)
  | [], acc, _ => by simp [hdFin]
  | h :: l, acc, ok => by
    have hk := ok h (List.mem_cons_self ..)
    have hb := hdB_length hk
    rw [List.length_cons, hdFin, List.flatMap_cons, List.append_assoc, if_neg (by simp only [List.length_append, hb, List.length_singleton]; omega), if_neg (by rw [List.getElem?_append_right (by omega), hb]; simp), List.take_left' hb, hdOf_put hk, ← List.append_assoc, List.drop_left' (by rw [List.length_append, hb]; rfl), hdFin_put l _ (fun x hx => ok x (List.mem_cons_of_mem _ hx)), List.append_assoc]
    rfl
theorem hdGets_put (l : List Hd) (ok : OkHds l) (hl : l.length ≤ 2000) : hdGets (hdAll l) = (l, 0) := by
  have hb : Cm.bounded (hdAll l) 2000 = (l.length, Cm.size l.length, 0) := by
    unfold Cm.bounded hdAll
    rw [Cm.get_put _ (by omega), if_neg (by simp), if_neg (by dsimp only; omega)]
  unfold hdGets
  rw [hb, if_neg (by simp)]
  unfold hdAll
  rw [List.drop_left' (Cm.put_length _), hdFin_put l [] ok]
  rfl
theorem hdFin_bad (k : Nat) : ∀ (acc : List Hd) (b : List UInt8), (hdFin k acc b).2 ≠ 0 → (hdFin k acc b).1 = [] := by
  induction k with
  | zero => intro acc b; unfold hdFin; split <;> simp
  | succ k ih => intro acc b; unfold hdFin; split; · simp
                 split; · simp
                 exact ih _ _
theorem hdFin_more : ∀ (l acc : List Hd), OkHds l → hdFin l.length acc ((l.flatMap fun h => hdB h ++ [0]) ++ [0]) = ([], 2)
  | [], acc, _ => by simp [hdFin]
  | h :: l, acc, ok => by
    have hk := ok h (List.mem_cons_self ..)
    have hb := hdB_length hk
    rw [List.length_cons, hdFin, List.flatMap_cons, List.append_assoc, List.append_assoc, if_neg (by simp only [List.length_append, hb, List.length_singleton]; omega), if_neg (by rw [List.getElem?_append_right (by omega), hb]; simp), List.take_left' hb, hdOf_put hk, ← List.append_assoc, List.drop_left' (by rw [List.length_append, hb]; rfl), hdFin_more l _ (fun x hx => ok x (List.mem_cons_of_mem _ hx))]
theorem hdGets_more (l : List Hd) (ok : OkHds l) (hl : l.length ≤ 2000) : hdGets (hdAll l ++ [0]) = ([], 2) := by
  have hb : Cm.bounded (hdAll l ++ [0]) 2000 = (l.length, Cm.size l.length, 0) := by
    unfold Cm.bounded hdAll
    rw [List.append_assoc, Cm.get_put _ (by omega), if_neg (by simp), if_neg (by dsimp only; omega)]
  unfold hdGets
  rw [hb, if_neg (by simp)]
  unfold hdAll
  rw [List.append_assoc, List.drop_left' (Cm.put_length _), hdFin_more l [] ok]
theorem hdFin_less : ∀ (l acc : List Hd), OkHds l → l ≠ [] → hdFin l.length acc ((l.flatMap fun h => hdB h ++ [0]).take (81 * l.length - 1)) = ([], 1)
  | [], _, _, h => absurd rfl h
  | [h], acc, ok, _ => by
    have hb := hdB_length (ok h (List.mem_cons_self ..))
    rw [List.length_singleton, hdFin, if_pos (by rw [List.length_take]; omega)]
  | h :: y :: l, acc, ok, _ => by
    have hk := ok h (List.mem_cons_self ..)
    have hb := hdB_length hk
    have e : 81 * (h :: y :: l).length - 1 = (hdB h ++ [0]).length + (81 * (y :: l).length - 1) := by simp only [List.length_cons, List.length_append, hb, List.length_nil]; omega
    rw [e, List.flatMap_cons, List.take_length_add_append, List.length_cons, hdFin, List.append_assoc, if_neg (by simp only [List.length_append, hb, List.length_take, List.flatMap_cons, hdB_length (ok y (by simp)), List.length_cons]; omega), if_neg (by rw [List.getElem?_append_right (by omega), hb]; simp), List.take_left' hb, hdOf_put hk, ← List.append_assoc, List.drop_left' (by rw [List.length_append, hb]; rfl), hdFin_less (y :: l) _ (fun x hx => ok x (List.mem_cons_of_mem _ hx)) (by simp)]
theorem hdGets_less (l : List Hd) (ok : OkHds l) (hl : l.length < 253) : hdGets ((hdAll l).take (81 * l.length)) = ([], 1) := by
  by_cases h0 : l = []
  · subst h0
    rfl
  have hp : 0 < l.length := List.length_pos_iff.2 h0
  have e : (hdAll l).take (81 * l.length) = Cm.put l.length ++ (l.flatMap fun h => hdB h ++ [0]).take (81 * l.length - 1) := by
    unfold hdAll
    have p1 : (Cm.put l.length).length = 1 := by rw [Cm.put_length, Cm.size, if_pos hl]
    rw [List.take_append, p1, List.take_of_length_le (by omega)]
  rw [e]
  have hb : Cm.bounded (Cm.put l.length ++ (l.flatMap fun h => hdB h ++ [0]).take (81 * l.length - 1)) 2000 = (l.length, Cm.size l.length, 0) := by
    unfold Cm.bounded
    rw [Cm.get_put _ (by omega), if_neg (by simp), if_neg (by dsimp only; omega)]
  unfold hdGets
  rw [hb, if_neg (by simp), List.drop_left' (Cm.put_length _), hdFin_less l [] ok h0]
theorem hdB_hdOf {b : List UInt8} (h : b.length = 80) : hdB (hdOf b) = b := by
  have q : ∀ o, o + 4 ≤ 80 → Cm.lo 4 (Cm.le ((b.drop o).take 4)) = (b.drop o).take 4 := fun o ho => by
    have := Cm.lo_le ((b.drop o).take 4)
    rwa [show ((b.drop o).take 4).length = 4 by rw [List.length_take, List.length_drop]; omega] at this
  have q0 := q 0 (by omega)
  rw [List.drop_zero] at q0
  unfold hdB hdOf
  dsimp only
  rw [q0, q 68 (by omega), q 72 (by omega), q 76 (by omega)]
  have c : ∀ o n, (b.drop o).take n ++ b.drop (o + n) = b.drop o := fun o n => by rw [← List.drop_drop, List.take_append_drop]
  have e6 : (b.drop 76).take 4 = b.drop 76 := List.take_of_length_le (by rw [List.length_drop]; omega)
  rw [e6, c 72 4, c 68 4, c 36 32, c 4 32, List.take_append_drop]
theorem hdFin_once (k : Nat) : ∀ (acc : List Hd) (b : List UInt8), (hdFin k acc b).2 = 0 → ∃ l, OkHds l ∧ l.length = k ∧ (hdFin k acc b).1 = acc ++ l ∧ b = l.flatMap fun h => hdB h ++ [0] := by
  induction k with
  | zero =>
    intro acc b h
    unfold hdFin at h ⊢
    split at h
    · cases h
    · rename_i h0
      rw [if_neg h0]
      exact ⟨[], fun _ h => (by cases h), rfl, by simp, by simpa using h0⟩
  | succ k ih =>
    intro acc b h
    unfold hdFin at h ⊢
    split at h
    · cases h
    rename_i h1
    split at h
    · cases h
    rename_i h2
    rw [if_neg h1, if_neg h2]
    obtain ⟨l, l1, l2, l3, l4⟩ := ih _ _ h
    have h80 : (b.take 80).length = 80 := by rw [List.length_take]; omega
    refine ⟨hdOf (b.take 80) :: l, ?_, by rw [List.length_cons, l2], by rw [l3, List.append_assoc]; rfl, ?_⟩
    · intro u hu
      rcases List.mem_cons.1 hu with rfl | hu
      · exact hdOf_ok h80
      · exact l1 u hu
    · rw [List.flatMap_cons, hdB_hdOf h80, ← l4]
      have h3 : b[80]? = some 0 := Decidable.not_not.1 h2
      have h4 : b.drop 80 = 0 :: b.drop 81 := by
        obtain ⟨p, q⟩ := List.getElem?_eq_some_iff.1 h3
        rw [← q, List.getElem_cons_drop]
      rw [List.append_assoc, List.singleton_append, ← h4, List.take_append_drop]
theorem hdGets_bad (b : List UInt8) (h : (hdGets b).2 ≠ 0) : (hdGets b).1 = [] := by
  unfold hdGets at h ⊢
  split at h
  · rename_i e
    rw [if_pos e]
  · rename_i e
    rw [if_neg e]
    exact hdFin_bad _ _ _ h
theorem hdGets_once (b : List UInt8) (h : (hdGets b).2 = 0) : OkHds (hdGets b).1 ∧ hdAll (hdGets b).1 = b ∧ (hdGets b).1.length ≤ 2000 := by
  unfold hdGets at h ⊢
  split at h
  · rename_i e
    exact absurd h e
  rename_i e
  rw [if_neg e]
  obtain ⟨l, l1, l2, l3, l4⟩ := hdFin_once _ _ _ h
  rw [l3, List.nil_append]
  have e0 : (Cm.bounded b 2000).2.2 = 0 := Decidable.not_not.1 e
  have hB : Cm.bounded b 2000 = Cm.get b ∧ (Cm.get b).1 ≤ 2000 := by
    unfold Cm.bounded at e0 ⊢
    split at e0
    · rename_i e1
      exact absurd e0 e1
    split at e0
    · cases e0
    rename_i e1 e2
    rw [if_neg e1, if_neg e2]
    exact ⟨rfl, by omega⟩
  rw [hB.1] at l2 l4 e0
  refine ⟨l1, ?_, by omega⟩
  unfold hdAll
  rw [l2, ← l4, (Cm.put_get b e0).1, List.take_append_drop]
end Go.Proofs.YtjgdmpbaikhflaaDoor
