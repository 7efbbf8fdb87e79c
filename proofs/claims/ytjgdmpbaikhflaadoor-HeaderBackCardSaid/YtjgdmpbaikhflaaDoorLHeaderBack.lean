/-
  Proved: a header's bytes are got again, and headers' bytes; with a byte less, or one more, they are not (the law HeaderBack answers true), for every input, the tables of SHA-256 tied to the program's text.
-/
import Derived.Test.YtjgdmpbaikhflaaDoorHdL
import Derived.Test.YtjgdmpbaikhflaaDoorHdG
import Derived.Test.YtjgdmpbaikhflaaDoorCGet
import Derived.Test.YtjgdmpbaikhflaaDoorHdS
import Derived.Test.YtjgdmpbaikhflaaDoorAw7
import Derived.Test.YtjgdmpbaikhflaaDoorHdQ
import Derived.Test.YtjgdmpbaikhflaaDoorApp
import Derived.WalkKit
import Derived.ProofKit
import Derived.OpenShut
import Derived.ChangeOld
import Derived.Deep.Slices
import Derived.Test.YtjgdmpbaikhflaaDoorTie2
/- header.GetAll. -/
namespace Go.Proofs.YtjgdmpbaikhflaaDoor
open Go.RowKit
attribute [local go_sem high] slB_lh slB_l slB_h
/-- so many headers more, behind those that were got -/
def hdFin : Nat → List Hd → List UInt8 → List Hd × Nat
  | 0, acc, b => if 0 < b.length then ([], 2) else (acc, 0)
  | k + 1, acc, b => if b.length ≤ 80 then ([], 1) else if b[80]? ≠ some 0 then ([], 2) else hdFin k (acc ++ [hdOf (b.take 80)]) (b.drop 81)
/-- what header.GetAll answers -/
def hdGets (b : List UInt8) : List Hd × Nat := if (Cm.bounded b 2000).2.2 ≠ 0 then ([], (Cm.bounded b 2000).2.2) else hdFin (Cm.bounded b 2000).1 [] (b.drop (Cm.bounded b 2000).2.1)
theorem infoHdR : (Tryd.prog.info? 26).map (fun i => (i.size, i.bytes)) = some (68, 80) := by kernel_rfl
theorem zeroHdR : (Tryd.prog.info? 26).map (fun i => (i.zero.map (·.cells.size))) = some (some 68) := by kernel_rfl
theorem cmb_le (l : List UInt8) (most : Nat) : (Cm.bounded l most).2.1 ≤ l.length ∧ (Cm.bounded l most).1 ≤ most := by
  have hg : (Cm.get l).2.1 ≤ l.length := by
    unfold Cm.get
    cases l with
    | nil => simp
    | cons b r =>
      dsimp only
      split
      · simp
      · split
        · simp
        · split
          · simp
          · simp only [List.length_cons]; omega
  unfold Cm.bounded
  split
  · simp
  · split
    · simp
    · rename_i h1 h2
      exact ⟨hg, by omega⟩
theorem RdHds.none (w : World) (A : Option Addr) : RdHds w A [] := ⟨Rd.nil w A, fun _ h => by cases h⟩
set_option maxRecDepth 10000 in
set_option maxHeartbeats 4000000 in
theorem HdGetAll (b : List UInt8) (A : Option Addr) (n c : Nat) (hn : b.length = n) (hc : n ≤ c) (hn2 : n ≤ 1000000) (w : World) (hr : Rd w A (b.map bv)) :
    Calls Tryd.prog 18 #[.slice A n c] w fun r w' => ∃ B m d, r = .returned (.tuple #[.slice B m d, .int .i64 ((hdGets b).2 : Int)]) ∧ (hdGets b).1.length = m ∧ m ≤ d ∧ RdHds w' B (hdGets b).1 ∧ Below w.heap.size w w' := by
  obtain ⟨X, K, E, hg⟩ : ∃ X K E, Cm.bounded b 2000 = (X, K, E) := ⟨_, _, _, rfl⟩
  have HB := Lib.hid (compact_Bounded b 2000 (by decide) X K E hg A n c w hr hn (by omega))
  obtain ⟨ans, hans⟩ : ∃ ans, ans = hdGets b := ⟨_, rfl⟩
  rw [← hans]
  have hK : K ≤ n := by have := (cmb_le b 2000).1; rw [hg] at this; rw [← hn]; exact this
  unfold hdGets at hans
  rw [hg] at hans
  dsimp only at hans
  by_cases hE : E = 0
  · subst hE
    rw [if_neg (by simp)] at hans
    have hX : X ≤ 2000 := by have := (cmb_le b 2000).2; rw [hg] at this; exact this
    have k0 : (0 : Int) ≤ (K : Int) := by omega
    have k1 : (K : Int) ≤ (n : Int) := by omega
    have HG := Lib.hid (fun (x : List UInt8) (A : Option Addr) (c : Nat) (h80 : x.length = 80) (hc : 80 ≤ c) (w : World) (r : Rd w A (x.map bv)) => HdGet_ok x A c h80 hc w r)
    have hz := zeros_68
    obtain ⟨zs, hzs⟩ : ∃ zs : List Value, zs = hdc ⟨0, List.replicate 32 0, List.replicate 32 0, 0, 0, 0⟩ := ⟨_, rfl⟩
    have hzl : zs.length = 68 := by rw [hzs]; rfl
    rw [← hzs] at hz
    clear hzs
    have r0 := hr.sub c K 1 (by rw [List.length_map, hn]; omega)
    rw [Nat.mul_one, ← List.map_drop] at r0
    have l0 : (b.drop K).length = n - K := by rw [List.length_drop, hn]
    replace hans := Lib.hid hans
    replace hzl := Lib.hid hzl
    replace hg := Lib.hid hg
    replace hn := Lib.hid hn
    replace l0 := Lib.hid l0
    replace r0 := Lib.hid r0
    go_enter Tryd.func18, Tryd.ntmps18
    go_wp2_with (go_at_call 34; refine (HB.out).mono ?_; rintro e w1 ⟨rfl, rfl⟩)
    go_loopw [0, 7, 23] (fun s v i wr => ∃ (j : Nat) (acc : List Hd) (x : List UInt8) (B : Option Addr) (m d : Nat), j ≤ X ∧ i = .int .i64 (j : Int) ∧ s = .slice B m d ∧ x.length = m ∧ m ≤ d ∧ m ≤ n ∧ acc.length = j ∧ OkHds acc ∧ wr.ownsRow w.heap.size 26 68 v j (hdl acc) ∧ Rd w B (x.map bv) ∧ Below w.heap.size w wr ∧ Hid (ans = hdFin (X - j) acc x)) (fun _ _ i _ => X - (intOf i).toNat)
    case atStart => 
      refine ⟨0, [], b.drop K, _, _, _, Nat.zero_le _, rfl, rfl, l0.out, ?_, ?_, rfl, ?_, World.ownsRow_nil _ _ _ _, r0.out, Below.refl _ _, hans⟩
      · omega
      · omega
      · intro u hu
        cases hu
    case round =>
      clear hans r0
      obtain ⟨j, acc, x, B, m, d, hj, rfl, rfl, hx, hmd, hmn, hacc, hok, ow, rxw, bw, hfin⟩ := hrel
      have rx := rxw.below bw
      replace hacc := Lib.hid hacc
      replace hx := Lib.hid hx
      by_cases hlt : j < X
      · have t2 : decide ((j : Int) < (X : Int)) = true := by simp; omega
        obtain ⟨k, hk⟩ : ∃ k, X - j = k + 1 := ⟨X - j - 1, by omega⟩
        have hf := hfin.out
        rw [hk, hdFin] at hf
        clear hfin
        by_cases h80 : m ≤ 80
        · have t3 : decide ((m : Int) ≤ 80) = true := by simp; omega
          rw [if_pos (by rw [hx.out]; exact h80)] at hf
          subst hf
          go_wp2
          go_ret2
          exact ⟨none, 0, 0, rfl, rfl, Nat.le_refl _, RdHds.none _ _, bw⟩
        · have t3 : decide ((m : Int) ≤ 80) = false := by simp; omega
          rw [if_neg (by rw [hx.out]; exact h80)] at hf
          have x80 : (x.take 80).length = 80 := by rw [List.length_take, hx.out]; omega
          have r80 := rx.take 80
          rw [← List.map_take] at r80
          obtain ⟨y, hy⟩ : ∃ y, x[80]? = some y := ⟨_, List.getElem?_eq_getElem (by rw [hx.out]; omega)⟩
          obtain ⟨bb, off, rfl⟩ := rx.someA (by intro h; have := congrArg List.length h; rw [List.length_map, hx.out] at this; simp at this; omega)
          have hcell : ∀ w', Rd w' (some ⟨bb, off, none⟩) (x.map bv) → w'.cell? ⟨bb, off + 80, none⟩ = some (bv y) := by
            intro w' h
            rcases h with h | ⟨b', o', hA, hc⟩
            · have := congrArg List.length h; rw [List.length_map, hx.out] at this; simp at this; omega
            · cases hA
              exact hc 80 _ (by rw [List.getElem?_map, hy]; rfl)
          obtain ⟨h, hh⟩ : ∃ h, h = hdOf (x.take 80) := ⟨_, rfl⟩
          have hhok : h.ok := by rw [hh]; exact hdOf_ok x80
          have HX := HG.out (x.take 80) (some ⟨bb, off, none⟩) d x80 (by omega) wr r80
          rw [← hh] at hf HX
          have h68 := Lib.hid (hdc_length hhok)
          have one := Lib.hid (List.all_eq_true.2 (hdc_one h))
          have d0 : (80 : Int) ≤ (d : Int) := by omega
          have m1 : (80 : Int) < (m : Int) := by omega
          have m2 : (81 : Int) ≤ (m : Int) := by omega
          rw [hy] at hf
          replace hf := Lib.hid hf
          replace hh := Lib.hid hh
          replace hy := Lib.hid hy
          replace HX := Lib.hid HX
          replace x80 := Lib.hid x80
          replace ow := Lib.hid ow
          go_upto_region 11 with (first
            | (go_at_call 15; refine (HX.out).mono ?_; rintro e w2 ⟨rfl, b2⟩)
            | ((with_reducible refine wpList_storeF 26 ((Below.refl w2.heap.size w2).alloc (Nat.le_refl _) _) (heap_alloc_new _ _) (Nat.le_refl _) (hdc h) ?_ ?_ 68 h68.out ?_ ?_ ?_ ?_); rfl; rfl; kernel_rfl; (rw [List.size_toArray]; exact hzl.out); exact one.out; intro w3 a3 b3 k3 z3; clear k3; replace z3 := Lib.hid z3))
          have b23 := b2.trans (b3.mono b2.size)
          have bw3 := bw.trans (b23.mono bw.size)
          have rx3 := rx.below b23
          have ow3 := own_below ow.out b23
          have c80 := hcell _ rx3
          clear ow rx r80
          by_cases hy0 : y = 0
          · have t4 : ((y.toNat : Int) != 0) = false := by rw [hy0]; rfl
            have hf2 := hf.out
            rw [if_neg (by rw [hy0]; simp)] at hf2
            replace hf2 := Lib.hid hf2
            replace hy0 := Lib.hid hy0
            have bb0 := bw3.size
            go_upto_region 16 with (first
              | ((with_reducible refine wpList_loadF 26 a3 ?_ _ 68 h68.out Tryd.underlying26 ?_ ?_ ?_); rfl; rfl; kernel_rfl)
              | ((with_reducible refine wpList_build1 Tryd.underlying34 infoHdR zeroHdR (by decide) (by decide) (hdc h) h68.out rfl ?_))
              | (at_builtin; refine wpList_appE Tryd.underlying34 infoHdR zeroHdR (by decide) (own_below ow3 ((Below.refl w3.heap.size w3).alloc (Nat.le_refl _) _)) (by simp; omega) (hdc h) 1 1 (Av.rd (t := 26) (heap_alloc_new _ _)) (by rw [h68.out]) (hdc_one h) (by omega) (by omega) rfl (.tmp 41) (.tmp 43) rfl rfl rfl ?_; intro v4 w4 o4 gr4 ob4; obtain ⟨B4, d4, rfl, _, _⟩ := own_form o4))
            have bw4 := own_app (bw3.alloc bw3.size _) (own_below ow3 ((Below.refl w3.heap.size w3).alloc (Nat.le_refl _) _)) gr4 (by simp; omega)
            have x81 : (x.drop 81).length = m - 81 := by rw [List.length_drop, hx.out]
            have rs := rxw.sub d 81 1 (by rw [List.length_map, hx.out]; omega)
            rw [Nat.mul_one, ← List.map_drop] at rs
            have el : hdl acc ++ hdc h = hdl (acc ++ [h]) := by simp [hdl]
            rw [el] at o4
            replace el := Lib.hid el
            replace x81 := Lib.hid x81
            go_wp2
            refine ⟨⟨j + 1, acc ++ [h], x.drop 81, _, _, _, by omega, by go_num, rfl, x81.out, by omega, by omega, by rw [List.length_append, hacc.out]; rfl, ?_, o4, rs, bw4, ?_⟩, ?_⟩
            · intro u hu
              rcases List.mem_append.1 hu with hu | hu
              · exact hok u hu
              · rw [List.mem_singleton.1 hu]; exact hhok
            · rw [show X - (j + 1) = k by omega]
              exact hf2
            · simp [intOf]; omega
          · have t4 : ((y.toNat : Int) != 0) = true := by
              simp only [bne_iff_ne, ne_eq]
              intro e
              exact hy0 (UInt8.toNat_inj.1 (by simpa using e))
            have hf2 := hf.out
            rw [if_pos (by intro e; exact hy0 (Option.some.inj e))] at hf2
            subst hf2
            clear hf
            go_wp2
            go_ret2
            exact ⟨none, 0, 0, rfl, rfl, Nat.le_refl _, RdHds.none _ _, bw3⟩
      · obtain rfl : j = X := by omega
        have t2 : decide ((j : Int) < (j : Int)) = false := by simp
        have hf := hfin.out
        rw [Nat.sub_self, hdFin] at hf
        clear hfin
        by_cases h0 : 0 < m
        · have t3 : decide ((0 : Int) < (m : Int)) = true := by simp; omega
          rw [if_pos (by rw [hx.out]; exact h0)] at hf
          subst hf
          go_wp2
          go_ret2
          exact ⟨none, 0, 0, rfl, rfl, Nat.le_refl _, RdHds.none _ _, bw⟩
        · have t3 : decide ((0 : Int) < (m : Int)) = false := by simp; omega
          rw [if_neg (by rw [hx.out]; exact h0)] at hf
          subst hf
          obtain ⟨B5, d5, rfl, hd5, _⟩ := own_form ow
          have rr := own_rd ow
          go_wp2
          go_ret2
          exact ⟨B5, j, d5, rfl, hacc.out, hd5, ⟨rr, hok⟩, bw⟩
  · rw [if_pos (by simpa using hE)] at hans
    subst hans
    have t1 : ((E : Int) != 0) = true := by simp; omega
    replace hn := Lib.hid hn
    replace hg := Lib.hid hg
    go_enter Tryd.func18, Tryd.ntmps18
    go_wp2_with (go_at_call 34; refine (HB.out).mono ?_; rintro e w1 ⟨rfl, rfl⟩)
    go_ret2
    exact ⟨none, 0, 0, rfl, rfl, Nat.le_refl _, RdHds.none _ _, Below.refl _ _⟩
end Go.Proofs.YtjgdmpbaikhflaaDoor
/- Headers' bytes, and what is got of them: plain laws. -/
namespace Go.Proofs.YtjgdmpbaikhflaaDoor
open Go.RowKit
theorem hdOf_put {h : Hd} (k : h.ok) : hdOf (hdB h) = h := by
  obtain ⟨k0, k1, k2, k3, k4, k5⟩ := k
  have m : ∀ n r, ((Cm.lo 4 n : List UInt8) ++ r).take 4 = Cm.lo 4 n := fun n r => by rw [List.take_append_of_le_length (by rw [Cm.lo_length]; exact Nat.le_refl _), List.take_of_length_le (by rw [Cm.lo_length]; exact Nat.le_refl _)]
  have d4 : ∀ (n j : Nat) (r : List UInt8), ((Cm.lo 4 n : List UInt8) ++ r).drop (4 + j) = r.drop j := fun n j r => by rw [← List.drop_drop, List.drop_left' (Cm.lo_length 4 n)]
  have d32 : ∀ (p : List UInt8) (_ : p.length = 32) (j : Nat) (r : List UInt8), (p ++ r).drop (32 + j) = r.drop j := fun p hp j r => by rw [← List.drop_drop, List.drop_left' hp]
  have t32 : ∀ (p : List UInt8) (_ : p.length = 32) (r : List UInt8), (p ++ r).take 32 = p := fun p hp r => by rw [List.take_append_of_le_length (by omega), List.take_of_length_le (by omega)]
  have le : ∀ n, n < 4294967296 → Cm.le (Cm.lo 4 n) = n := fun n h => by rw [Cm.le_lo]; exact Nat.mod_eq_of_lt h
  have m' : ∀ n, (Cm.lo 4 n : List UInt8).take 4 = Cm.lo 4 n := fun n => List.take_of_length_le (by rw [Cm.lo_length]; exact Nat.le_refl _)
  unfold hdOf hdB
  rw [m, le _ k0, show 4 = 4 + 0 from rfl, d4, List.drop_zero, t32 _ k1, show 36 = 4 + (32 + 0) from rfl, d4, d32 _ k1, List.drop_zero, t32 _ k2,
    show 68 = 4 + (32 + (32 + 0)) from rfl, d4, d32 _ k1, d32 _ k2, List.drop_zero, show 72 = 4 + (32 + (32 + (4 + 0))) from rfl, d4, d32 _ k1, d32 _ k2, d4, List.drop_zero,
    show 76 = 4 + (32 + (32 + (4 + (4 + 0)))) from rfl, d4, d32 _ k1, d32 _ k2, d4, d4, List.drop_zero]
  simp only [Nat.add_zero]
  rw [m, m, m', le _ k3, le _ k4, le _ k5]
theorem hdFin_put : ∀ (l acc : List Hd), OkHds l → hdFin l.length acc (l.flatMap fun h => hdB h ++ [0]) = (acc ++ l, 0)
  | [], acc, _ => by simp [hdFin]
  | h :: l, acc, ok => by
    have hk := ok h (List.mem_cons_self ..)
    have hb := hdB_length hk
    rw [List.length_cons, hdFin, List.flatMap_cons, List.append_assoc, if_neg (by simp only [List.length_append, hb, List.length_singleton]; omega), if_neg (by rw [List.getElem?_append_right (by omega), hb]; simp), List.take_left' hb, hdOf_put hk, ← List.append_assoc, List.drop_left' (by rw [List.length_append, hb]; rfl), hdFin_put l _ (fun x hx => ok x (List.mem_cons_of_mem _ hx)), List.append_assoc]
    rfl
theorem hdGets_put (l : List Hd) (ok : OkHds l) (hl : l.length ≤ 2000) : hdGets (hdAll l) = (l, 0) := by
  have hb : Cm.bounded (hdAll l) 2000 = (l.length, Cm.size l.length, 0) := by
    unfold Cm.bounded hdAll
    rw [Cm.get_put _ (by omega), if_neg (by simp), if_neg (by dsimp only; omega)]
  unfold hdGets
  rw [hb, if_neg (by simp)]
  unfold hdAll
  rw [List.drop_left' (Cm.put_length _), hdFin_put l [] ok]
  rfl
theorem hdFin_bad (k : Nat) : ∀ (acc : List Hd) (b : List UInt8), (hdFin k acc b).2 ≠ 0 → (hdFin k acc b).1 = [] := by
  induction k with
  | zero => intro acc b; unfold hdFin; split <;> simp
  | succ k ih => intro acc b; unfold hdFin; split; · simp
                 split; · simp
                 exact ih _ _
theorem hdFin_more : ∀ (l acc : List Hd), OkHds l → hdFin l.length acc ((l.flatMap fun h => hdB h ++ [0]) ++ [0]) = ([], 2)
  | [], acc, _ => by simp [hdFin]
  | h :: l, acc, ok => by
    have hk := ok h (List.mem_cons_self ..)
    have hb := hdB_length hk
    rw [List.length_cons, hdFin, List.flatMap_cons, List.append_assoc, List.append_assoc, if_neg (by simp only [List.length_append, hb, List.length_singleton]; omega), if_neg (by rw [List.getElem?_append_right (by omega), hb]; simp), List.take_left' hb, hdOf_put hk, ← List.append_assoc, List.drop_left' (by rw [List.length_append, hb]; rfl), hdFin_more l _ (fun x hx => ok x (List.mem_cons_of_mem _ hx))]
theorem hdGets_more (l : List Hd) (ok : OkHds l) (hl : l.length ≤ 2000) : hdGets (hdAll l ++ [0]) = ([], 2) := by
  have hb : Cm.bounded (hdAll l ++ [0]) 2000 = (l.length, Cm.size l.length, 0) := by
    unfold Cm.bounded hdAll
    rw [List.append_assoc, Cm.get_put _ (by omega), if_neg (by simp), if_neg (by dsimp only; omega)]
  unfold hdGets
  rw [hb, if_neg (by simp)]
  unfold hdAll
  rw [List.append_assoc, List.drop_left' (Cm.put_length _), hdFin_more l [] ok]
theorem hdFin_less : ∀ (l acc : List Hd), OkHds l → l ≠ [] → hdFin l.length acc ((l.flatMap fun h => hdB h ++ [0]).take (81 * l.length - 1)) = ([], 1)
  | [], _, _, h => absurd rfl h
  | [h], acc, ok, _ => by
    have hb := hdB_length (ok h (List.mem_cons_self ..))
    rw [List.length_singleton, hdFin, if_pos (by rw [List.length_take]; omega)]
  | h :: y :: l, acc, ok, _ => by
    have hk := ok h (List.mem_cons_self ..)
    have hb := hdB_length hk
    have e : 81 * (h :: y :: l).length - 1 = (hdB h ++ [0]).length + (81 * (y :: l).length - 1) := by simp only [List.length_cons, List.length_append, hb, List.length_nil]; omega
    rw [e, List.flatMap_cons, List.take_length_add_append, List.length_cons, hdFin, List.append_assoc, if_neg (by simp only [List.length_append, hb, List.length_take, List.flatMap_cons, hdB_length (ok y (by simp)), List.length_cons]; omega), if_neg (by rw [List.getElem?_append_right (by omega), hb]; simp), List.take_left' hb, hdOf_put hk, ← List.append_assoc, List.drop_left' (by rw [List.length_append, hb]; rfl), hdFin_less (y :: l) _ (fun x hx => ok x (List.mem_cons_of_mem _ hx)) (by simp)]
theorem hdGets_less (l : List Hd) (ok : OkHds l) (hl : l.length < 253) : hdGets ((hdAll l).take (81 * l.length)) = ([], 1) := by
  by_cases h0 : l = []
  · subst h0
    rfl
  have hp : 0 < l.length := List.length_pos_iff.2 h0
  have e : (hdAll l).take (81 * l.length) = Cm.put l.length ++ (l.flatMap fun h => hdB h ++ [0]).take (81 * l.length - 1) := by
    unfold hdAll
    have p1 : (Cm.put l.length).length = 1 := by rw [Cm.put_length, Cm.size, if_pos hl]
    rw [List.take_append, p1, List.take_of_length_le (by omega)]
  rw [e]
  have hb : Cm.bounded (Cm.put l.length ++ (l.flatMap fun h => hdB h ++ [0]).take (81 * l.length - 1)) 2000 = (l.length, Cm.size l.length, 0) := by
    unfold Cm.bounded
    rw [Cm.get_put _ (by omega), if_neg (by simp), if_neg (by dsimp only; omega)]
  unfold hdGets
  rw [hb, if_neg (by simp), List.drop_left' (Cm.put_length _), hdFin_less l [] ok h0]
theorem hdB_hdOf {b : List UInt8} (h : b.length = 80) : hdB (hdOf b) = b := by
  have q : ∀ o, o + 4 ≤ 80 → Cm.lo 4 (Cm.le ((b.drop o).take 4)) = (b.drop o).take 4 := fun o ho => by
    have := Cm.lo_le ((b.drop o).take 4)
    rwa [show ((b.drop o).take 4).length = 4 by rw [List.length_take, List.length_drop]; omega] at this
  have q0 := q 0 (by omega)
  rw [List.drop_zero] at q0
  unfold hdB hdOf
  dsimp only
  rw [q0, q 68 (by omega), q 72 (by omega), q 76 (by omega)]
  have c : ∀ o n, (b.drop o).take n ++ b.drop (o + n) = b.drop o := fun o n => by rw [← List.drop_drop, List.take_append_drop]
  have e6 : (b.drop 76).take 4 = b.drop 76 := List.take_of_length_le (by rw [List.length_drop]; omega)
  rw [e6, c 72 4, c 68 4, c 36 32, c 4 32, List.take_append_drop]
theorem hdFin_once (k : Nat) : ∀ (acc : List Hd) (b : List UInt8), (hdFin k acc b).2 = 0 → ∃ l, OkHds l ∧ l.length = k ∧ (hdFin k acc b).1 = acc ++ l ∧ b = l.flatMap fun h => hdB h ++ [0] := by
  induction k with
  | zero =>
    intro acc b h
    unfold hdFin at h ⊢
    split at h
    · cases h
    · rename_i h0
      rw [if_neg h0]
      exact ⟨[], fun _ h => (by cases h), rfl, by simp, by simpa using h0⟩
  | succ k ih =>
    intro acc b h
    unfold hdFin at h ⊢
    split at h
    · cases h
    rename_i h1
    split at h
    · cases h
    rename_i h2
    rw [if_neg h1, if_neg h2]
    obtain ⟨l, l1, l2, l3, l4⟩ := ih _ _ h
    have h80 : (b.take 80).length = 80 := by rw [List.length_take]; omega
    refine ⟨hdOf (b.take 80) :: l, ?_, by rw [List.length_cons, l2], by rw [l3, List.append_assoc]; rfl, ?_⟩
    · intro u hu
      rcases List.mem_cons.1 hu with rfl | hu
      · exact hdOf_ok h80
      · exact l1 u hu
    · rw [List.flatMap_cons, hdB_hdOf h80, ← l4]
      have h3 : b[80]? = some 0 := Decidable.not_not.1 h2
      have h4 : b.drop 80 = 0 :: b.drop 81 := by
        obtain ⟨p, q⟩ := List.getElem?_eq_some_iff.1 h3
        rw [← q, List.getElem_cons_drop]
      rw [List.append_assoc, List.singleton_append, ← h4, List.take_append_drop]
theorem hdGets_bad (b : List UInt8) (h : (hdGets b).2 ≠ 0) : (hdGets b).1 = [] := by
  unfold hdGets at h ⊢
  split at h
  · rename_i e
    rw [if_pos e]
  · rename_i e
    rw [if_neg e]
    exact hdFin_bad _ _ _ h
theorem hdGets_once (b : List UInt8) (h : (hdGets b).2 = 0) : OkHds (hdGets b).1 ∧ hdAll (hdGets b).1 = b ∧ (hdGets b).1.length ≤ 2000 := by
  unfold hdGets at h ⊢
  split at h
  · rename_i e
    exact absurd h e
  rename_i e
  rw [if_neg e]
  obtain ⟨l, l1, l2, l3, l4⟩ := hdFin_once _ _ _ h
  rw [l3, List.nil_append]
  have e0 : (Cm.bounded b 2000).2.2 = 0 := Decidable.not_not.1 e
  have hB : Cm.bounded b 2000 = Cm.get b ∧ (Cm.get b).1 ≤ 2000 := by
    unfold Cm.bounded at e0 ⊢
    split at e0
    · rename_i e1
      exact absurd e0 e1
    split at e0
    · cases e0
    rename_i e1 e2
    rw [if_neg e1, if_neg e2]
    exact ⟨rfl, by omega⟩
  rw [hB.1] at l2 l4 e0
  refine ⟨l1, ?_, by omega⟩
  unfold hdAll
  rw [l2, ← l4, (Cm.put_get b e0).1, List.take_append_drop]
end Go.Proofs.YtjgdmpbaikhflaaDoor
/- The law HeaderBack: the walk. -/
namespace Go.Proofs.YtjgdmpbaikhflaaDoor
open Go.RowKit
attribute [local go_sem high] slB_lh slB_l slB_h
set_option maxRecDepth 10000 in
set_option maxHeartbeats 4000000 in
theorem hback_long (x : Hd) (A : Option Addr) (n c : Nat) (hh : 40 < n) (w : World) (ht : Tabs w) : Calls Tryd.prog 6 #[.agg (hdc x).toArray, .slice A n c] w fun e w' => e = .returned (.bool true) ∧ Below w.heap.size w w' := by
  have t1 : decide ((40 : Int) < (n : Int)) = true := by simp; omega
  obtain ⟨W, hW⟩ : ∃ W, W = w.alloc (.cells (hdc x).toArray 26) := ⟨_, rfl⟩
  have bW : Below w.heap.size w W := by rw [hW]; exact (Below.refl _ _).alloc (Nat.le_refl _) _
  have HA := Lib.hid (awake7 W (ht.below bW))
  replace hW := Lib.hid hW
  go_enter Tryd.func6, Tryd.ntmps6
  go_upto_region 1 with fail
  rw [← hW.out]
  go_wp2_with (go_at_call 9; refine (HA.out).mono ?_; rintro e w1 ⟨rfl, b1⟩)
  go_ret
  exact ⟨rfl, bW.trans (b1.mono bW.size)⟩
set_option maxRecDepth 10000 in
set_option maxHeartbeats 8000000 in
theorem hback_short (x : Hd) (k : x.ok) (l : List Hd) (A : Option Addr) (n c : Nat) (hn : l.length = n) (hh : n ≤ 40) (w : World) (ht : Tabs w) (hr : RdHds w A l) : Calls Tryd.prog 6 #[.agg (hdc x).toArray, .slice A n c] w fun e w' => e = .returned (.bool true) ∧ Below w.heap.size w w' := by
  have t1 : decide ((40 : Int) < (n : Int)) = false := by simp; omega
  have t2 : IntKind.i64.wrap (81 * (n : Int)) = 81 * (n : Int) := IntWalk.i64_in _ (by omega)
  have hP := hdB_length k
  obtain ⟨B, hB⟩ : ∃ B, B = hdB x := ⟨_, rfl⟩
  have HP := fun w' => HdPut x k w'
  have h79 : (B.take 79).length = 79 := by rw [List.length_take, hB, hP]; rfl
  rw [← hB] at hP HP
  have HG := fun A c hc w' (r : Rd w' A (B.map bv)) => HdGet_ok B A c hP hc w' r
  have hof : hdOf B = x := by rw [hB]; exact hdOf_put k
  rw [hof] at HG
  have HGs := fun A c w' => HdGet_bad 1 A 79 c (.inl ⟨by omega, rfl⟩) w'
  have HGb := fun A c w' => HdGet_bad 3 A 81 c (.inr ⟨by omega, rfl⟩) w'
  obtain ⟨V, hV⟩ : ∃ V, V = hdAll l := ⟨_, rfl⟩
  have hok := hr.2
  have hVl : V.length = 81 * n + 1 := by rw [hV, hdAll_len hok (by omega), hn]
  have HPA := fun w' r => HdPutAll l A n c hn (by omega) w' r
  rw [← hV] at HPA
  have HG1 := fun A c hc w' r => HdGetAll V A (81 * n + 1) c hVl hc (by omega) w' r
  have HG2 := fun A c hc w' r => HdGetAll (V.take (81 * n)) A (81 * n) c (by rw [List.length_take, hVl]; omega) hc (by omega) w' r
  have HG3 := fun A c hc w' r => HdGetAll (V ++ [0]) A (81 * n + 1 + 1) c (by rw [List.length_append, hVl]; rfl) hc (by omega) w' r
  have e2 := hdGets_less l hok (by omega)
  rw [hn] at e2
  simp only [hV, hdGets_put l hok (by omega), hdGets_more l hok (by omega), e2] at HG1 HG2 HG3
  rw [← hV] at HG1 HG2 HG3
  have HS := fun B m ca cb hm w' ra rb => SameHd l l B A m n ca cb hm hn (by omega) (by omega) w' ra rb
  simp only [decide_true] at HS
  have NH := fun p q w => eqlHdg k k p q w
  rw [decide_eq_true rfl] at NH
  have hz := zeros_68
  obtain ⟨zs, hzs⟩ : ∃ zs : List Value, zs = hdc zeroHd := ⟨_, rfl⟩
  have hzl : zs.length = 68 := by rw [hzs]; rfl
  rw [show hdc ⟨0, List.replicate 32 0, List.replicate 32 0, 0, 0, 0⟩ = zs from hzs.symm] at hz
  clear hzs
  obtain ⟨W, hW⟩ : ∃ W, W = w.alloc (.cells (hdc x).toArray 26) := ⟨_, rfl⟩
  obtain ⟨H, hH⟩ : ∃ H, H = w.heap.size := ⟨_, rfl⟩
  have bW : Below w.heap.size w W := by rw [hW]; exact (Below.refl _ _).alloc (Nat.le_refl _) _
  have aW : Av W H 26 (hdc x) := by rw [hW, hH]; exact heap_alloc_new _ _
  have HA := Lib.hid (awake7 W (ht.below bW))
  have x68 := Lib.hid (hdc_length k)
  have z68 := Lib.hid (hdc_length (h := zeroHd) zeroHd_ok)
  have xone := Lib.hid (List.all_eq_true.2 (hdc_one x))
  have zone := Lib.hid (List.all_eq_true.2 (hdc_one zeroHd))
  replace hn := Lib.hid hn
  replace NH := Lib.hid NH
  replace hP := Lib.hid hP
  replace hVl := Lib.hid hVl
  replace hB := Lib.hid hB
  replace hV := Lib.hid hV
  replace hof := Lib.hid hof
  replace h79 := Lib.hid h79
  replace e2 := Lib.hid e2
  replace hW := Lib.hid hW
  replace hH := Lib.hid hH
  replace hzl := Lib.hid hzl
  replace HP := Lib.hid HP
  replace HG := Lib.hid HG
  replace HGs := Lib.hid HGs
  replace HGb := Lib.hid HGb
  replace HPA := Lib.hid HPA
  replace HG1 := Lib.hid HG1
  replace HG2 := Lib.hid HG2
  replace HG3 := Lib.hid HG3
  replace HS := Lib.hid HS
  go_enter Tryd.func6, Tryd.ntmps6
  go_upto_region 1 with fail
  rw [← hW.out, ← hH.out]
  go_upto_region 2 with (go_at_call 9; refine (HA.out).mono ?_; rintro e w1 ⟨rfl, b1⟩)
  have bw1 := bW.trans (b1.mono bW.size)
  have a1 := aW.below b1
  clear HA b1 aW
  go_upto_region 5 with (first
    | ((with_reducible refine wpList_loadF 26 a1 ?_ _ 68 x68.out Tryd.underlying26 ?_ ?_ ?_); rfl; rfl; kernel_rfl)
    | (go_at_call 14; refine (HP.out w1).mono ?_; rintro e w2 ⟨A2, rfl, r2, b2⟩))
  have bw2 := bw1.trans (b2.mono bw1.size)
  have a2 := a1.below b2
  clear a1 b2
  obtain ⟨bb, off, e⟩ := r2.someA (by intro h; have := congrArg List.length h; rw [List.length_map, hP.out] at this; simp at this)
  obtain rfl : A2 = ⟨bb, off, none⟩ := by simpa using e
  clear e
  go_upto_region 8 with (first
    | (go_at_call 15; refine (HG.out _ _ (Nat.le_refl _) w2 r2).mono ?_; rintro e w3 ⟨rfl, b3⟩)
    | ((with_reducible refine wpList_storeF 26 ((Below.refl w3.heap.size w3).alloc (Nat.le_refl _) _) (heap_alloc_new _ _) (Nat.le_refl _) (hdc x) ?_ ?_ 68 x68.out ?_ ?_ ?_ ?_); rfl; rfl; kernel_rfl; (rw [List.size_toArray]; exact hzl.out); exact xone.out; intro w4 ag b4 z4; clear z4; intro z4; replace z4 := Lib.hid z4))
  obtain ⟨G, hG⟩ : ∃ G, G = w3.heap.size := ⟨_, rfl⟩
  rw [← hG] at ag ⊢
  replace hG := Lib.hid hG
  have b34 := b3.trans (b4.mono b3.size)
  have bw4 := bw2.trans (b34.mono bw2.size)
  have a4 := a2.below b34
  have r4 := r2.below b34
  clear a2 r2 b34 b3 b4
  go_upto_region 9 with (first
    | (go_at_call 15; refine (HGs.out _ _ w4).mono ?_; rintro e w5 ⟨rfl, b5⟩)
    | ((with_reducible refine wpList_storeF 26 ((Below.refl w5.heap.size w5).alloc (Nat.le_refl _) _) (heap_alloc_new _ _) (Nat.le_refl _) (hdc zeroHd) ?_ ?_ 68 z68.out ?_ ?_ ?_ ?_); rfl; rfl; kernel_rfl; (rw [List.size_toArray]; exact hzl.out); exact zone.out; intro w6 ag2 b6 z6; clear z6; intro z6; replace z6 := Lib.hid z6))
  have b56 := b5.trans (b6.mono b5.size)
  have bw6 := bw4.trans (b56.mono bw4.size)
  have a6 := a4.below b56
  have g6 := ag.below b56
  have r6 := r4.below b56
  clear a4 r4 ag ag2 b56 b5 b6
  have hmade := OwnB.made w6 w6.heap.size (Nat.le_refl _) #[] 0 (by simp only [maxLen]; omega) rfl
  have hb0 := (Below.refl w6.heap.size w6).alloc (Nat.le_refl _) (.cells #[] 5)
  have r7 := r6.below hb0
  go_upto_region 10 with (at_builtin; refine wpList_appB hmade hb0 (by simp) 80 80 r7 hP.out (by simp) rfl (.tmp 44) (.tmp 45) rfl rfl rfl ?_; intro v8 w8 ho8 hb8 hz8 hg8; rw [List.nil_append] at ho8; obtain ⟨A8, c8, rfl, hc8, _⟩ := ho8.formN 80 hP.out)
  have hP8 : B.length + 1 ≤ 140737488355328 := by rw [hP.out]; omega
  have hsz8 := hb8.size
  clear hmade hb0 hz8 hg8
  go_upto_region 11 with (at_builtin; refine wpList_appB1 ho8 hb8 hsz8 0 rfl hP8 rfl (.tmp 47) (.tmp 48) rfl rfl rfl ?_; intro v9 w9 ho9 hb9 hz9; obtain ⟨A9, c9, rfl, hc9, _⟩ := ho9.formN 81 (by rw [List.length_append, hP.out]; rfl))
  have bw9 := bw6.trans (hb9.mono bw6.size)
  have a9 := a6.below hb9
  have g9 := g6.below hb9
  clear a6 g6 ho8 hb8 hsz8 hz9 hP8 ho9 r6 r7
  go_upto_region 12 with (first
    | (go_at_call 15; refine (HGb.out _ _ w9).mono ?_; rintro e w10 ⟨rfl, b10⟩)
    | ((with_reducible refine wpList_storeF 26 ((Below.refl w10.heap.size w10).alloc (Nat.le_refl _) _) (heap_alloc_new _ _) (Nat.le_refl _) (hdc zeroHd) ?_ ?_ 68 z68.out ?_ ?_ ?_ ?_); rfl; rfl; kernel_rfl; (rw [List.size_toArray]; exact hzl.out); exact zone.out; intro w11 ag3 b11 z11; clear z11; intro z11; replace z11 := Lib.hid z11))
  have b1011 := b10.trans (b11.mono b10.size)
  have bw11 := bw9.trans (b1011.mono bw9.size)
  have a11 := a9.below b1011
  have g11 := g9.below b1011
  have q11 := hr.below bw11
  clear a9 g9 ag3 b1011 b10 b11
  go_upto_region 13 with (go_at_call 17; refine (HPA.out w11 q11).mono ?_; rintro e w12 ⟨v12, rfl, o12, b12⟩; obtain ⟨A12, c12, rfl, hc12, hm12⟩ := o12.formN (81 * n + 1) hVl.out)
  have bw12 := bw11.trans (b12.mono bw11.size)
  have a12 := a11.below b12
  have g12 := g11.below b12
  have r12 := o12.rd
  clear a11 g11 b12 o12 q11
  have l12 : (V.map bv).length = 81 * n + 1 := by rw [List.length_map, hVl.out]
  replace l12 := Lib.hid l12
  have hm0 : 81 * n + 1 ≤ 1000000 := by omega
  go_upto_region 14 with (go_at_call 18; refine (HG1.out _ _ hc12 w12 r12).mono ?_; rintro e w13 ⟨B13, m13, d13, rfl, n13, hd13, s13, b13⟩)
  have bw13 := bw12.trans (b13.mono bw12.size)
  have a13 := a12.below b13
  have g13 := g12.below b13
  have r13 := r12.below b13
  replace n13 := Lib.hid n13
  clear a12 g12 b13 r12
  go_upto_region 16 with fail
  have rt := r13.take (81 * n)
  rw [← List.map_take] at rt
  have i0 : (0 : Int) ≤ 81 * (n : Int) := by omega
  have i1 : 81 * (n : Int) ≤ (c12 : Int) := by omega
  have i2 : ¬ (c12 : Int) < 81 * (n : Int) := by omega
  go_upto_region 17 with (go_at_call 18; refine (HG2.out _ _ (by omega) w13 rt).mono ?_; rintro e w14 ⟨B14, m14, d14, rfl, n14, hd14, s14, b14⟩)
  have bw14 := bw13.trans (b14.mono bw13.size)
  have a14 := a13.below b14
  have g14 := g13.below b14
  have r14 := r13.below b14
  have s14x := s13.below b14
  obtain rfl : m14 = 0 := n14.symm
  clear a13 g13 b14 r13 s13 rt s14 n14 i0 i1 i2 hd14
  have hmade := OwnB.made w14 w14.heap.size (Nat.le_refl _) #[] 0 (by simp only [maxLen]; omega) rfl
  have hb0 := (Below.refl w14.heap.size w14).alloc (Nat.le_refl _) (.cells #[] 5)
  have r15 := r14.below hb0
  go_upto_region 18 with (at_builtin; refine wpList_appB hmade hb0 (by simp) (81 * n + 1) c12 r15 hVl.out (by simp; omega) rfl (.tmp 81) (.tmp 82) rfl rfl rfl ?_; intro v16 w16 ho16 hb16 hz16 hg16; rw [List.nil_append] at ho16; obtain ⟨A16, c16, rfl, hc16, _⟩ := ho16.formN (81 * n + 1) hVl.out)
  have hV16 : V.length + 1 ≤ 140737488355328 := by rw [hVl.out]; omega
  have hsz16 := hb16.size
  clear hmade hb0 hz16 hg16 r14 r15
  go_upto_region 19 with (at_builtin; refine wpList_appB1 ho16 hb16 hsz16 0 rfl hV16 rfl (.tmp 84) (.tmp 85) rfl rfl rfl ?_; intro v17 w17 ho17 hb17 hz17; obtain ⟨A17, c17, rfl, hc17, _⟩ := ho17.formN (81 * n + 1 + 1) (by rw [List.length_append, hVl.out]; rfl))
  have bw17 := bw14.trans (hb17.mono bw14.size)
  have a17 := a14.below hb17
  have g17 := g14.below hb17
  have s17 := s14x.below hb17
  have r17 := ho17.rd
  clear a14 g14 ho16 hb16 hsz16 hz17 hV16 ho17 s14x
  go_upto_region 20 with (go_at_call 18; refine (HG3.out _ _ hc17 w17 r17).mono ?_; rintro e w18 ⟨B18, m18, d18, rfl, n18, hd18, s18, b18⟩)
  have bw18 := bw17.trans (b18.mono bw17.size)
  have a18 := a17.below b18
  have g18 := g17.below b18
  have s18x := s17.below b18
  have q18 := hr.below bw18
  clear a17 g17 r17 s17 b18 n18 hd18 s18
  go_wp2_with (first
    | ((with_reducible refine wpList_loadG 26 g18 ?_ ?_ _ 68 x68.out Tryd.underlying26 ?_ ?_ ?_); rfl; rfl; rfl; kernel_rfl)
    | ((with_reducible refine wpList_loadG 26 a18 ?_ ?_ _ 68 x68.out Tryd.underlying26 ?_ ?_ ?_); rfl; rfl; rfl; kernel_rfl)
    | ((with_reducible refine wpList_binG (op := .eql) (ty := 26) ?_ ?_ ?_ (NH.out _ _ w18) ?_); rfl; rfl; rfl)
    | (go_at_call 19; refine (HS.out _ _ _ _ n13.out w18 s18x q18).mono ?_; rintro e w19 ⟨rfl, b19⟩))
  go_ret
  exact ⟨rfl, bw18.trans (b19.mono bw18.size)⟩
theorem law_HeaderBack (x : Hd) (k : x.ok) (l : List Hd) (A : Option Addr) (n c : Nat) (hn : l.length = n) (w : World) (ht : Tabs w) (hr : RdHds w A l) : Calls Tryd.prog 6 #[.agg (hdc x).toArray, .slice A n c] w fun e w' => e = .returned (.bool true) ∧ Below w.heap.size w w' := by
  by_cases hh : n ≤ 40
  · exact hback_short x k l A n c hn hh w ht hr
  · exact hback_long x A n c (by omega) w ht
end Go.Proofs.YtjgdmpbaikhflaaDoor
/- What came in, opened: hashes; slices of whatever elements; bytes. -/
namespace Go.Proofs.YtjgdmpbaikhflaaDoor
open Go.RowKit Go.ChangeShapes Go.WideShapes Go.ChangeAt

theorem mapM_each {α β : Type} {f : α → Option β} : ∀ {l : List α} {ys : List β}, l.mapM f = some ys → ∀ x ∈ l, ∃ y, f x = some y
  | [], _, _, x, hx => by cases hx
  | a :: l, ys, h, x, hx => by
    rw [List.mapM_cons] at h
    cases ha : f a with
    | none => rw [ha] at h; cases h
    | some y =>
      rw [ha] at h
      cases hl : l.mapM f with
      | none => rw [hl] at h; cases h
      | some zs =>
        rcases List.mem_cons.1 hx with rfl | hx
        · exact ⟨y, ha⟩
        · exact mapM_each hl x hx
theorem flat_get {α : Type} (g : α → List Value) (s : Nat) : ∀ (l : List α) (_ : ∀ x ∈ l, (g x).length = s) (i j : Nat) (x : α) (_ : l[i]? = some x) (_ : j < s), (l.flatMap g)[s * i + j]? = (g x)[j]?
  | [], _, i, j, x, hx, _ => by simp at hx
  | y :: l, h, 0, j, x, hx, hj => by
    obtain rfl : y = x := by simpa using hx
    rw [List.flatMap_cons, Nat.mul_zero, Nat.zero_add, List.getElem?_append_left (by rw [h y (List.mem_cons_self ..)]; exact hj)]
  | y :: l, h, i + 1, j, x, hx, hj => by
    have hy := h y (List.mem_cons_self ..)
    rw [List.flatMap_cons, List.getElem?_append_right (by rw [hy, Nat.mul_add]; omega), hy, show s * (i + 1) + j - s = s * i + j by rw [Nat.mul_add]; omega]
    exact flat_get g s l (fun x hx => h x (List.mem_cons_of_mem _ hx)) i j x (by simpa using hx) hj
section
variable {H : Type} {enc : TypeId × Value → H} {w : World} {base : Nat} {spare : Nat → Bool} {held : Bool}
theorem cells_u8 : Tryd.prog.cellsOf 5 = 1 := by kernel_rfl
theorem cells_h : Tryd.prog.cellsOf 24 = 32 := by kernel_rfl
set_option maxRecDepth 10000 in
theorem open_hash {fuel : Nat} {cs : List Value} {x : DataW H × List MemPlace} (h : DataW.trod enc Tryd.prog w base spare held fuel 24 cs = some x) : ∃ bs : List UInt8, bs.length = 32 ∧ cs = bs.map bv := by
  cases fuel with
  | zero => cases h
  | succ fuel =>
    unfold DataW.trod at h
    rw [Tryd.underlying24] at h
    dsimp only at h
    rw [cells_h, cells_u8] at h
    split at h
    · rename_i hlen
      have hm : ∃ ys, (List.range 32).mapM (fun i => DataW.trod enc Tryd.prog w base spare held fuel 5 ((cs.drop (i * 1)).take 1)) = some ys := by
        cases hq : (List.range 32).mapM (fun i => DataW.trod enc Tryd.prog w base spare held fuel 5 ((cs.drop (i * 1)).take 1)) with
        | none => rw [hq] at h; cases h
        | some ys => exact ⟨ys, rfl⟩
      obtain ⟨ys, hm⟩ := hm
      have each : ∀ i, i < 32 → ∃ n : Int, cs[i]? = some (.int .u8 n) ∧ (Lit.int .u8 n).wf = true := by
        intro i hi
        obtain ⟨y, hy⟩ := mapM_each hm i (List.mem_range.2 hi)
        obtain ⟨n, hn, _, hw⟩ := DataW.trod_int Tryd.underlying5 hy
        refine ⟨n, ?_, hw⟩
        have : (List.take 1 (cs.drop (i * 1)))[0]? = some (.int .u8 n) := by rw [hn]; rfl
        simpa using this
      refine ⟨cs.map fun v => match v with | .int _ n => UInt8.ofNat n.toNat | _ => 0, by rw [List.length_map, hlen], ?_⟩
      rw [List.map_map]
      refine List.ext_getElem? fun i => ?_
      rw [List.getElem?_map]
      by_cases hi : i < 32
      · obtain ⟨n, hn, hw⟩ := each i hi
        rw [hn]
        have hb : 0 ≤ n ∧ n ≤ 255 := by simpa [Lit.wf, IntKind.min, IntKind.max, IntKind.signed, IntKind.bits] using hw
        have e : ((UInt8.ofNat n.toNat).toNat : Int) = n := by
          have : (UInt8.ofNat n.toNat).toNat = n.toNat % 256 := UInt8.toNat_ofNat'
          rw [this]; omega
        show some (Value.int IntKind.u8 n) = some (Value.int IntKind.u8 ((UInt8.ofNat n.toNat).toNat : Int))
        rw [e]
      · rw [List.getElem?_eq_none (by omega)]
        rfl
    · cases h
set_option maxRecDepth 10000 in
/-- a slice of elements that came in, each of which is known -/
theorem open_elems {α : Type} [Inhabited α] {t e : TypeId} {s : Nat} (ht : Tryd.prog.underlying t = some (.slice e)) (hc : Tryd.prog.cellsOf e = s) (hs : 0 < s) (g : α → List Value) (ok : α → Prop) (hg : ∀ x, ok x → (g x).length = s)
    (hop : ∀ (fuel : Nat) (cs : List Value) (y : DataW H × List MemPlace), DataW.trod enc Tryd.prog w base spare held fuel e cs = some y → ∃ x, cs = g x ∧ ok x)
    {fuel : Nat} {A : Option Addr} {n c : Nat} {x : DataW H × List MemPlace} (h : DataW.trod enc Tryd.prog w base spare held fuel t [.slice A n c] = some x) :
    ∃ l : List α, l.length = n ∧ n ≤ c ∧ c ≤ maxLen ∧ Rd w A (l.flatMap g) ∧ ∀ y ∈ l, ok y := by
  rcases Go.Deep.open_slice ht h with ⟨hcs, _⟩ | ⟨a, len, cap, m, k, D, Pl, hcs, _, hl, hm, hmm, _, hx⟩
  · simp at hcs
    obtain ⟨rfl, rfl, rfl⟩ := hcs
    exact ⟨[], rfl, Nat.le_refl _, (by decide), Rd.nil _ _, fun _ hx => (by cases hx)⟩
  · simp at hcs
    obtain ⟨rfl, rfl, rfl⟩ := hcs
    have hlm : n ≤ m := by rw [hmm]; split <;> omega
    rw [hc] at hx
    obtain ⟨f, hf⟩ := Go.Deep.choose_lt (α := α) (n := n) (p := fun i y => ok y ∧ w.cells? base (a.add (i * s)) s = some (g y)) (fun i hi => by
      obtain ⟨cs', h1, h2⟩ := hx i (by omega)
      obtain ⟨y, hb1, hb2⟩ := hop _ _ _ h2
      exact ⟨y, hb2, by rw [h1, hb1]⟩)
    have hlen : ((List.range n).map f).length = n := by simp
    have hok : ∀ y ∈ (List.range n).map f, ok y := fun y hy => by
      obtain ⟨i, hi, rfl⟩ := List.mem_map.1 hy
      exact (hf i (List.mem_range.1 hi)).1
    refine ⟨(List.range n).map f, hlen, hl, hm, ?_, hok⟩
    by_cases hn : n = 0
    · subst hn
      exact Rd.nil _ _
    · have hcell : ∀ i r, i < n → r < s → w.cell? ((a.add (i * s)).add r) = (g (f i))[r]? := fun i r hi hr => (World.cells?_some (hf i hi).2).2.2 r hr
      have hsp : a.spot = none := by
        have h0 := hcell 0 0 (by omega) hs
        have hl0 := hg _ (hf 0 (by omega)).1
        rw [List.getElem?_eq_getElem (by omega)] at h0
        cases hsp : a.spot with
        | none => rfl
        | some s =>
          simp [World.cell?, Addr.add, hsp] at h0
          split at h0 <;> simp at h0
      have ha : a = ⟨a.block, a.off, none⟩ := by cases a; simp_all
      refine .inr ⟨a.block, a.off, by rw [← ha], fun j u hu => ?_⟩
      have hflat : (((List.range n).map f).flatMap g).length = n * s := by
        have : ∀ l : List α, (∀ y ∈ l, (g y).length = s) → (l.flatMap g).length = l.length * s := by
          intro l
          induction l with
          | nil => simp
          | cons y l ih =>
            intro h
            rw [List.flatMap_cons, List.length_append, h y (List.mem_cons_self ..), ih fun z hz => h z (List.mem_cons_of_mem _ hz), List.length_cons, Nat.add_mul, Nat.one_mul, Nat.add_comm]
        rw [this _ fun y hy => hg y (hok y hy), hlen]
      have hj : j < n * s := by
        have := (List.getElem?_eq_some_iff.1 hu).1
        rw [hflat] at this
        exact this
      have hi : j / s < n := Nat.div_lt_of_lt_mul (by rw [Nat.mul_comm]; exact hj)
      have hr : j % s < s := Nat.mod_lt _ hs
      have hdm : s * (j / s) + j % s = j := Nat.div_add_mod j s
      have hgd : ((List.range n).map f)[j / s]? = some (f (j / s)) := by
        rw [List.getElem?_map, List.getElem?_range hi]
        rfl
      have hq := flat_get g s ((List.range n).map f) (fun y hy => hg y (hok y hy)) (j / s) (j % s) _ hgd hr
      rw [hdm] at hq
      rw [hq] at hu
      have hcl := hcell (j / s) (j % s) hi hr
      rw [hu, ha, addr_add, addr_add] at hcl
      rw [← hcl]
      congr 2
      rw [Nat.add_assoc, Nat.mul_comm (j / s) s, hdm]
theorem map_flat : ∀ l : List UInt8, l.map bv = l.flatMap fun b => [bv b]
  | [] => rfl
  | x :: l => by rw [List.map_cons, List.flatMap_cons, map_flat l]; rfl
/-- bytes that came in -/
theorem open_bytes {fuel : Nat} {A : Option Addr} {n c : Nat} {x : DataW H × List MemPlace} (h : DataW.trod enc Tryd.prog w base spare held fuel 37 [.slice A n c] = some x) :
    ∃ bs : List UInt8, bs.length = n ∧ n ≤ c ∧ c ≤ maxLen ∧ Rd w A (bs.map bv) := by
  obtain ⟨l, h1, h2, h3, h4, _⟩ := open_elems Tryd.underlying37 cells_u8 (by decide) (fun b : UInt8 => [bv b]) (fun _ => True) (fun _ _ => rfl) (fun fuel cs y hy => by
    obtain ⟨n, hn, _, hw⟩ := DataW.trod_int Tryd.underlying5 hy
    have hb : 0 ≤ n ∧ n ≤ 255 := by simpa [Lit.wf, IntKind.min, IntKind.max, IntKind.signed, IntKind.bits] using hw
    refine ⟨UInt8.ofNat n.toNat, ?_, trivial⟩
    have e : ((UInt8.ofNat n.toNat).toNat : Int) = n := by
      have : (UInt8.ofNat n.toNat).toNat = n.toNat % 256 := UInt8.toNat_ofNat'
      rw [this]; omega
    rw [hn, bv, e]) h
  refine ⟨l, h1, h2, h3, ?_⟩
  rw [map_flat]
  exact h4
end
end Go.Proofs.YtjgdmpbaikhflaaDoor
/- Headers that came in, opened. -/
namespace Go.Proofs.YtjgdmpbaikhflaaDoor
open Go.RowKit Go.ChangeShapes Go.WideShapes Go.ChangeAt
section
variable {H : Type} {enc : TypeId × Value → H} {w : World} {base : Nat} {spare : Nat → Bool} {held : Bool}
theorem cells_hd : Tryd.prog.cellsOf 26 = 68 := by kernel_rfl
theorem cells_u32h : Tryd.prog.cellsOf 22 = 1 := by kernel_rfl
theorem one_ofh {cs : List Value} {i : Nat} {v : Value} (h : (cs.drop i).take 1 = [v]) : cs[i]? = some v := by
  have : ((cs.drop i).take 1)[0]? = some v := by rw [h]; rfl
  simpa using this
theorem u32_ofh {fuel : Nat} {cs : List Value} {x : DataW H × List MemPlace} (h : DataW.trod enc Tryd.prog w base spare held fuel 22 cs = some x) : ∃ n : Nat, cs = [.int .u32 (n : Int)] ∧ n < 4294967296 := by
  obtain ⟨i, e1, _, w1⟩ := DataW.trod_int Tryd.underlying22 h
  have b1 : 0 ≤ i ∧ i ≤ 4294967295 := by simpa [Lit.wf, IntKind.min, IntKind.max, IntKind.signed, IntKind.bits] using w1
  exact ⟨i.toNat, by rw [e1, show ((i.toNat : Nat) : Int) = i by omega], by omega⟩
theorem open_hd (fuel : Nat) (cs : List Value) (y : DataW H × List MemPlace) (h : DataW.trod enc Tryd.prog w base spare held fuel 26 cs = some y) : ∃ x : Hd, cs = hdc x ∧ x.ok := by
  obtain ⟨xs, n, _, rfl, hl, hlen, hf⟩ := DataW.trod_struct Tryd.underlying26 h
  rw [cells_hd] at hl
  match xs, hlen with
  | [y0, y1, y2, y3, y4, y5], _ =>
    have h0 : DataW.trod enc Tryd.prog w base spare held n 22 ((cs.drop 0).take (Tryd.prog.cellsOf 22)) = some y0 := by simpa using hf 0 _ rfl
    have h1 : DataW.trod enc Tryd.prog w base spare held n 24 ((cs.drop 1).take (Tryd.prog.cellsOf 24)) = some y1 := by simpa using hf 1 _ rfl
    have h2 : DataW.trod enc Tryd.prog w base spare held n 24 ((cs.drop 33).take (Tryd.prog.cellsOf 24)) = some y2 := by simpa using hf 2 _ rfl
    have h3 : DataW.trod enc Tryd.prog w base spare held n 22 ((cs.drop 65).take (Tryd.prog.cellsOf 22)) = some y3 := by simpa using hf 3 _ rfl
    have h4 : DataW.trod enc Tryd.prog w base spare held n 22 ((cs.drop 66).take (Tryd.prog.cellsOf 22)) = some y4 := by simpa using hf 4 _ rfl
    have h5 : DataW.trod enc Tryd.prog w base spare held n 22 ((cs.drop 67).take (Tryd.prog.cellsOf 22)) = some y5 := by simpa using hf 5 _ rfl
    rw [cells_u32h] at h0 h3 h4 h5
    rw [cells_h] at h1 h2
    obtain ⟨a0, e0, b0⟩ := u32_ofh h0
    obtain ⟨p, hp, e1⟩ := open_hash h1
    obtain ⟨r, hr, e2⟩ := open_hash h2
    obtain ⟨a3, e3, b3⟩ := u32_ofh h3
    obtain ⟨a4, e4, b4⟩ := u32_ofh h4
    obtain ⟨a5, e5, b5⟩ := u32_ofh h5
    refine ⟨⟨a0, p, r, a3, a4, a5⟩, ?_, b0, hp, hr, b3, b4, b5⟩
    rw [List.drop_zero] at e0
    have d1 := List.take_append_drop 32 (cs.drop 1)
    have d2 := List.take_append_drop 32 (cs.drop 33)
    rw [e1, List.drop_drop] at d1
    rw [e2, List.drop_drop] at d2
    have g0 := List.take_append_drop 1 cs
    rw [e0] at g0
    have k3 := one_ofh e3
    have k4 := one_ofh e4
    have k5 := one_ofh e5
    have hd : (cs.drop 65).length = 3 := by rw [List.length_drop, hl]
    have l3 : (cs.drop 65)[0]? = some (.int .u32 (a3 : Int)) := by rw [List.getElem?_drop]; exact k3
    have l4 : (cs.drop 65)[1]? = some (.int .u32 (a4 : Int)) := by rw [List.getElem?_drop]; exact k4
    have l5 : (cs.drop 65)[2]? = some (.int .u32 (a5 : Int)) := by rw [List.getElem?_drop]; exact k5
    have d3 : cs.drop 65 = [.int .u32 (a3 : Int), .int .u32 (a4 : Int), .int .u32 (a5 : Int)] := by
      match hcs : cs.drop 65, hd with
      | [a, b, d], _ =>
        rw [hcs] at l3 l4 l5
        simp only [List.getElem?_cons_zero, List.getElem?_cons_succ, Option.some.injEq] at l3 l4 l5
        rw [l3, l4, l5]
    rw [← g0, ← d1, ← d2, d3]
    rfl
/-- a slice of headers that came in -/
theorem open_hds {fuel : Nat} {A : Option Addr} {n c : Nat} {x : DataW H × List MemPlace} (h : DataW.trod enc Tryd.prog w base spare held fuel 34 [.slice A n c] = some x) : ∃ l : List Hd, l.length = n ∧ n ≤ c ∧ c ≤ maxLen ∧ RdHds w A l := by
  obtain ⟨l, h1, h2, h3, h4, h5⟩ := open_elems Tryd.underlying34 cells_hd (by decide) hdc Hd.ok (fun x hx => hdc_length hx) open_hd h
  exact ⟨l, h1, h2, h3, h4, h5⟩
end
end Go.Proofs.YtjgdmpbaikhflaaDoor
namespace Go.Proofs.YtjgdmpbaikhflaaDoor.headerBack
open Go.ChangeShapes Go.WideShapes Go.ChangeAt Go.RowKit
theorem own : ownKnob Tryd.prog.godebug = Option.none := by kernel_rfl
theorem laidOut : laidOutB Tryd.prog = true := by kernel_rfl

set_option maxRecDepth 100000 in
theorem contract (H : Type) (enc : TypeId × Value → H) (W : World) (base : Nat) (args : Array Value) (ds gs : List (DataW H)) (before : List MemPlace)
    (hval : ∀ (j : Nat) t v, Tryd.f6.params[j]? = some t → args[j]? = some v → Value.okWide Tryd.prog W .any base t v)
    (hW : DataW.Whole enc Tryd.prog Tryd.f6.params.toList Rows.headerBackSpec.vars false W args.toList ds gs before) (hL : laidMetH Tryd.prog Rows.headerBackRow.laid W) :
    Calls Tryd.prog 6 args W fun e W' => ∃ v, e = .returned v ∧ Rows.headerBackSpec.post enc Tryd.prog Tryd.f6 false true false false W args v W' := by
  have hW' := hW
  obtain ⟨p, q, hA0, hV, rfl, hfz, hnd⟩ := hW
  have hA : DataW.TrodAll enc Tryd.prog W 0 (fun _ => true) true Tryd.f6.params.toList args.toList ds p := hA0
  rw [Tryd.params6] at hA hval
  obtain ⟨v0, vs0, d0, ds0, p0, q0, hargs, rfl, rfl, h0, r0⟩ := trodAll_cons hA
  obtain ⟨v1, vs1, d1, ds1, p1, q1, rfl, rfl, rfl, h1, r1⟩ := trodAll_cons r0
  obtain ⟨rfl, rfl, rfl⟩ := trodAll_nil r1
  obtain rfl : args = #[v0, v1] := by cases args; simp_all
  obtain ⟨rfl, rfl⟩ := trodVars_none hV
  have k0 := h0
  have lt0 : ∀ x ∈ p0, x.block < W.heap.size := by obtain ⟨m, hm⟩ := k0; exact DataW.trod_lt m _ _ _ hm
  have k1 := h1
  have lt1 : ∀ x ∈ p1, x.block < W.heap.size := by obtain ⟨m, hm⟩ := k1; exact DataW.trod_lt m _ _ _ hm
  obtain ⟨cs0, rfl, hsz0⟩ := okWide_struct Tryd.underlying26 (hval 0 26 v0 rfl rfl)
  obtain ⟨fuel0, hf0⟩ := h0
  obtain ⟨x0, hcs0, xok0⟩ := open_hd _ _ _ hf0
  obtain rfl : cs0 = (hdc x0).toArray := by
    cases cs0
    simpa [Value.cells] using hcs0
  obtain ⟨A1, n1, c1, rfl⟩ := okWide_slice Tryd.underlying34 (hval 1 34 v1 rfl rfl)
  obtain ⟨fuel1, hf1⟩ := h1
  obtain ⟨l1, hn1, hc1, hx1, rH1⟩ := open_hds hf1
  have ht : Tabs W := tabs_of_laid hL
  clear hA0
  refine (law_HeaderBack x0 xok0 l1 A1 n1 c1 hn1 W ht rH1).mono fun e W' ⟨he, bel⟩ => ?_
  subst he
  exact ⟨_, rfl, _, _, _, [], _, [], hW', trodAll_mk1 (shut_bool Tryd.underlying4 _), (trodAll_cons_mk (Below.trod laidOut (by kernel_rfl) (of_decide_eq_true (by kernel_rfl)) k0 bel lt0) (trodAll_cons_mk (Below.trod laidOut (by kernel_rfl) (of_decide_eq_true (by kernel_rfl)) k1 bel lt1) trodAll_mk0)), rfl, bel.frame _, fun h => by cases h⟩

theorem laid_met (os : Os) : laidMet Tryd.prog Rows.headerBackRow.laid (((tabWorld os)).forCall (fun _ _ => 0) ⟨#[], #[.agg (hdc ⟨0, List.replicate 32 0, List.replicate 32 0, 0, 0, 0⟩).toArray, .slice Option.none 0 0], []⟩).memory :=
  laidMet_of_run' 8 (by kernel_rfl) (by kernel_rfl)
theorem reads (os : Os) {H : Type} (enc : TypeId × Value → H) : ∃ places, DataW.whole enc Tryd.prog ((tabWorld os).forCall (fun _ _ => 0) ⟨#[], #[.agg (hdc ⟨0, List.replicate 32 0, List.replicate 32 0, 0, 0, 0⟩).toArray, .slice Option.none 0 0], []⟩).memory Tryd.f6.params.toList Rows.headerBackSpec.vars false #[(.agg (hdc ⟨0, List.replicate 32 0, List.replicate 32 0, 0, 0, 0⟩).toArray : Value), (.slice Option.none 0 0 : Value)].toList 8 = some ([.agg [.lit (.int .u32 0), .agg (List.replicate 32 (.lit (.int .u8 0))), .agg (List.replicate 32 (.lit (.int .u8 0))), .lit (.int .u32 0), .lit (.int .u32 0), .lit (.int .u32 0)], .nil], [], places) :=
  ⟨[], by kernel_rfl⟩

set_option maxRecDepth 100000 in
theorem lifted (os : Os) (started : os.Started) (H : Type) (enc : TypeId × Value → H) (F : Stop.Interp) :
    ReturnsInHanded {} Tryd.checked os 6 .any ((OpenSpec.ofChange Rows.headerBackSpec).preRow enc Tryd.prog Tryd.f6 Rows.headerBackRow.domain false Rows.headerBackRow.laid) (((OpenSpec.ofChange Rows.headerBackSpec).at F).post enc Tryd.prog Tryd.f6 false true false false) := by
  obtain ⟨places, hx⟩ := reads os enc
  refine returnsInHanded_of_row (C := Tryd.checked) (s := OpenSpec.ofChange Rows.headerBackSpec) own started (by kernel_rfl) Tryd.func6
    (witness_row_at (enc := enc) (C := Tryd.checked) false (tabWorld os) #[.agg (hdc ⟨0, List.replicate 32 0, List.replicate 32 0, 0, 0, 0⟩).toArray, .slice Option.none 0 0] rfl (by kernel_rfl) (by kernel_rfl) (by kernel_rfl)
      (OpenSpec.preRow_of_cond 8 hx (by kernel_rfl) (fun k hk => by cases hk) (by kernel_rfl) (laid_met os))) ?_
  intro W base args ds gs before hval hW _ _ _ hL _ _
  exact contract H enc W base args ds gs before hval hW hL

theorem said : Rows.HeaderBackSaid :=
  OpenClaim.holds_of_cond 6 Tryd.f6 rfl rfl rfl rfl rfl rfl rfl ⟨rfl, rfl, rfl, rfl, rfl⟩ rfl rfl rfl rfl rfl (by kernel_rfl) Tryd.func6 (by kernel_rfl)
    (of_decide_eq_true (by kernel_rfl)) (by unfold Func.isWrapper; first | (rw [if_pos (by decide +kernel)]; kernel_rfl) | (rw [if_neg (by decide +kernel)]; exact ⟨rfl, rfl⟩))
    (fun os started H enc _ F => by rw [OpenClaim.pre_eq_preRow]; exact lifted os started H enc F)

/-- No parameter wants a stand-in; the program's own looks are off. -/
theorem plain (f : FuncId) (fn : Func) (hf : Tryd.pinned.checked.prog.funcNamed "florin/florinlaw07.HeaderBack" = some f) (hfn : Tryd.pinned.checked.prog.funcs[f]? = some fn) :
    false = Tryd.pinned.checked.prog.looks [] ∧ ∀ (j : Nat) t, fn.params[j]? = some t → Tryd.pinned.checked.prog.wantsStandIn t = false := by
  obtain rfl : f = 6 := Option.some.inj ((show Tryd.prog.funcNamed "florin/florinlaw07.HeaderBack" = some 6 by kernel_rfl).symm.trans hf) |>.symm
  obtain rfl : fn = Tryd.f6 := (Option.some.inj (Tryd.func6.symm.trans hfn)).symm
  refine ⟨by kernel_rfl, fun j t ht => ?_⟩
  rw [Tryd.params6] at ht
  have := Array.mem_of_getElem? ht
  simp only [List.mem_toArray, List.mem_cons, List.not_mem_nil, or_false] at this
  rcases this with rfl | rfl
  · exact (show Tryd.prog.wantsStandIn 26 = false by kernel_rfl)
  · exact (show Tryd.prog.wantsStandIn 34 = false by kernel_rfl)

/-- The statement. -/
theorem card : Rows.HeaderBackCardSaid :=
  Claim7.holds_tied_plain_at .later [] _ _ _ _ said (fun _ h => by cases h) (by kernel_rfl) (fun _ h => by cases h) headerBack_row_tie rfl ⟨rfl, rfl⟩ (by kernel_rfl) rfl plain (by kernel_rfl)
end Go.Proofs.YtjgdmpbaikhflaaDoor.headerBack
