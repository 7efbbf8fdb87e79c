/- florinref07.GetAll. -/
import Derived.Test.YtjgdmpbaikhflaaDoorPr14
import Derived.Test.YtjgdmpbaikhflaaDoorYf
import Derived.Test.YtjgdmpbaikhflaaDoorCRg
namespace Go.Proofs.YtjgdmpbaikhflaaDoor
open Go.RowKit
attribute [local go_sem high] slB_lh slB_l slB_h
set_option maxRecDepth 10000 in
set_option maxHeartbeats 4000000 in
theorem RGetAll7 (b : List UInt8) (A : Option Addr) (n c : Nat) (hn : b.length = n) (hc : n ≤ c) (hn2 : n ≤ 1000000) (w : World) (hr : Rd w A (b.map bv)) :
    Calls Tryd.prog 23 #[.slice A n c] w fun r w' => ∃ B m d, r = .returned (.tuple #[.slice B m d, .int .i64 ((hdGets b).2 : Int)]) ∧ (hdGets b).1.length = m ∧ m ≤ d ∧ RdHds w' B (hdGets b).1 ∧ Below w.heap.size w w' := by
  obtain ⟨X, K, E, hg⟩ : ∃ X K E, Cm.bounded b 2000 = (X, K, E) := ⟨_, _, _, rfl⟩
  have HB := Lib.hid (ref04_Bounded b 2000 (by decide) X K E hg A n c w hr hn (by omega))
  obtain ⟨ans, hans⟩ : ∃ ans, ans = hdGets b := ⟨_, rfl⟩
  rw [← hans]
  have hK : K ≤ n := by have := (cmb_le b 2000).1; rw [hg] at this; rw [← hn]; exact this
  unfold hdGets at hans
  rw [hg] at hans
  dsimp only at hans
  by_cases hE : E = 0
  · subst hE
    rw [if_neg (by simp)] at hans
    have hX : X ≤ 2000 := by have := (cmb_le b 2000).2; rw [hg] at this; exact this
    have HG := Lib.hid (fun (x : List UInt8) (A : Option Addr) (c : Nat) (h80 : x.length = 80) (hc : 80 ≤ c) (w : World) (r : Rd w A (x.map bv)) => RGet7_ok x A c h80 hc w r)
    have hz := zeros_68
    obtain ⟨zs, hzs⟩ : ∃ zs : List Value, zs = hdc ⟨0, List.replicate 32 0, List.replicate 32 0, 0, 0, 0⟩ := ⟨_, rfl⟩
    have hzl : zs.length = 68 := by rw [hzs]; rfl
    rw [← hzs] at hz
    clear hzs
    replace hans := Lib.hid hans
    replace hzl := Lib.hid hzl
    replace hg := Lib.hid hg
    replace hn := Lib.hid hn
    go_enter Tryd.func23, Tryd.ntmps23
    go_wp2_with (go_at_call 38; refine (HB.out).mono ?_; rintro e w1 ⟨rfl, rfl⟩)
    go_loopw [5, 7, 8] (fun kk v i wr => ∃ (j : Nat) (acc : List Hd) (k : Nat), j ≤ X ∧ i = .int .i64 (j : Int) ∧ kk = .int .i64 (k : Int) ∧ k ≤ n ∧ acc.length = j ∧ OkHds acc ∧ wr.ownsRow w.heap.size 26 68 v j (hdl acc) ∧ Below w.heap.size w wr ∧ Hid (ans = hdFin (X - j) acc (b.drop k))) (fun _ _ i _ => X - (intOf i).toNat)
    case atStart =>
      refine ⟨0, [], K, Nat.zero_le _, rfl, rfl, hK, rfl, ?_, World.ownsRow_nil _ _ _ _, Below.refl _ _, hans⟩
      intro u hu
      cases hu
    case round =>
      clear hans
      obtain ⟨j, acc, k, hj, rfl, rfl, hk, hacc, hok, ow, bw, hfin⟩ := hrel
      replace hacc := Lib.hid hacc
      have hdl0 : (b.drop k).length = n - k := by rw [List.length_drop, hn.out]
      replace hdl0 := Lib.hid hdl0
      by_cases hlt : j < X
      · have t2 : decide ((j : Int) < (X : Int)) = true := by simp; omega
        obtain ⟨q, hq⟩ : ∃ q, X - j = q + 1 := ⟨X - j - 1, by omega⟩
        have hf := hfin.out
        rw [hq, hdFin] at hf
        clear hfin
        obtain ⟨k81, hk81⟩ : ∃ z, z = k + 81 := ⟨_, rfl⟩
        have e81 : IntKind.i64.wrap ((k : Int) + 81) = (k81 : Int) := by rw [IntKind.wrap_i64]; omega
        by_cases h80 : n - k ≤ 80
        · have t3 : decide (n < k81) = true := by simp; omega
          rw [if_pos (by rw [hdl0.out]; exact h80)] at hf
          subst hf
          replace hk81 := Lib.hid hk81
          go_wp2
          go_ret2
          exact ⟨none, 0, 0, rfl, rfl, Nat.le_refl _, RdHds.none _ _, bw⟩
        · have t3 : decide (n < k81) = false := by simp; omega
          rw [if_neg (by rw [hdl0.out]; exact h80)] at hf
          obtain ⟨k80, hk80⟩ : ∃ z, z = k + 80 := ⟨_, rfl⟩
          have e80 : IntKind.i64.wrap ((k : Int) + 80) = (k80 : Int) := by rw [IntKind.wrap_i64]; omega
          have b80 : (0 : Int) ≤ (k80 : Int) := by omega
          have b81 : (k80 : Int) < (n : Int) := by omega
          have b82 : (k80 : Int) ≤ (c : Int) := by omega
          have b83 : (k : Int) ≤ (k80 : Int) := by omega
          have b84 : (0 : Int) ≤ (k : Int) := by omega
          have x80 : ((b.drop k).take 80).length = 80 := by rw [List.length_take, hdl0.out]; omega
          obtain ⟨y, hy⟩ : ∃ y, b[k80]? = some y := ⟨_, List.getElem?_eq_getElem (by rw [hn.out]; omega)⟩
          have hy2 : (b.drop k)[80]? = some y := by rw [List.getElem?_drop, ← hk80, hy]
          obtain ⟨bb, off, rfl⟩ := hr.someA (by intro h; have := congrArg List.length h; rw [List.length_map, hn.out] at this; simp at this; omega)
          have c80 : wr.cell? ⟨bb, off + k80, none⟩ = some (.int .u8 (y.toNat : Int)) := rd_byte (hr.below bw) hy
          rw [hy2] at hf
          by_cases hy0 : y = 0
          · have t4 : ((y.toNat : Int) != 0) = false := by rw [hy0]; rfl
            rw [if_neg (by rw [hy0]; simp)] at hf
            obtain ⟨h, hh⟩ : ∃ h, h = hdOf ((b.drop k).take 80) := ⟨_, rfl⟩
            have hhok : h.ok := by rw [hh]; exact hdOf_ok x80
            have hsub : Rd wr (subA (some ⟨bb, off, none⟩) c k 1) (((b.drop k).take 80).map bv) := by
              have := ((hr.below bw).sub c k 1 (by rw [List.length_map, hn.out]; omega)).take 80
              rw [Nat.mul_one, ← List.map_drop, ← List.map_take] at this
              exact this
            have HX := HG.out _ _ (c - k) x80 (by omega) wr hsub
            rw [← hh] at hf HX
            have e7 : 80 = k80 - k := by omega
            rw [show Value.slice (subA (some ⟨bb, off, none⟩) c k 1) 80 (c - k) = .slice (subA (some ⟨bb, off, none⟩) c k 1) (k80 - k) (c - k) by rw [← e7]] at HX
            replace e7 := Lib.hid e7
            have hk81n : k81 ≤ n := by omega
            rw [List.drop_drop, ← hk81] at hf
            have h68 := Lib.hid (hdc_length hhok)
            have one := Lib.hid (List.all_eq_true.2 (hdc_one h))
            replace hf := Lib.hid hf
            replace hh := Lib.hid hh
            replace hy := Lib.hid hy
            replace hy2 := Lib.hid hy2
            replace hy0 := Lib.hid hy0
            replace HX := Lib.hid HX
            replace x80 := Lib.hid x80
            replace ow := Lib.hid ow
            replace hk81 := Lib.hid hk81
            replace hk80 := Lib.hid hk80
            replace hq := Lib.hid hq
            go_upto_region 13 with (first
              | (go_at_call 20; refine (HX.out).mono ?_; rintro e w2 ⟨rfl, b2⟩)
              | ((with_reducible refine wpList_storeF 26 ((Below.refl w2.heap.size w2).alloc (Nat.le_refl _) _) (heap_alloc_new _ _) (Nat.le_refl _) (hdc h) ?_ ?_ 68 h68.out ?_ ?_ ?_ ?_); rfl; rfl; kernel_rfl; (rw [List.size_toArray]; exact hzl.out); exact one.out; intro w3 a3 b3 k3 z3; clear k3; replace z3 := Lib.hid z3))
            have b23 := b2.trans (b3.mono b2.size)
            have bw3 := bw.trans (b23.mono bw.size)
            have ow3 := own_below ow.out b23
            clear ow
            have bb0 := bw3.size
            go_upto_region 14 with (first
              | ((with_reducible refine wpList_loadF 26 a3 ?_ _ 68 h68.out Tryd.underlying26 ?_ ?_ ?_); rfl; rfl; kernel_rfl)
              | ((with_reducible refine wpList_build1 Tryd.underlying34 infoHdR zeroHdR (by decide) (by decide) (hdc h) h68.out rfl ?_))
              | (at_builtin; refine wpList_appE Tryd.underlying34 infoHdR zeroHdR (by decide) (own_below ow3 ((Below.refl w3.heap.size w3).alloc (Nat.le_refl _) _)) (by simp; omega) (hdc h) 1 1 (Av.rd (t := 26) (heap_alloc_new _ _)) (by rw [h68.out]) (hdc_one h) (by omega) (by omega) rfl (.tmp 45) (.tmp 47) rfl rfl rfl ?_; intro v4 w4 o4 gr4 ob4; obtain ⟨B4, d4, rfl, _⟩ := own_form o4))
            have bw4 := own_app (bw3.alloc bw3.size _) (own_below ow3 ((Below.refl w3.heap.size w3).alloc (Nat.le_refl _) _)) gr4 (by simp; omega)
            have el : hdl acc ++ hdc h = hdl (acc ++ [h]) := by simp [hdl]
            rw [el] at o4
            replace el := Lib.hid el
            go_wp2
            refine ⟨⟨j + 1, acc ++ [h], k81, by omega, by go_num, rfl, hk81n, by rw [List.length_append, hacc.out]; rfl, ?_, o4, bw4, ?_⟩, ?_⟩
            · intro u hu
              rcases List.mem_append.1 hu with hu | hu
              · exact hok u hu
              · rw [List.mem_singleton.1 hu]; exact hhok
            · rw [show X - (j + 1) = q by have := hq.out; omega]
              exact hf
            · simp [intOf]; omega
          · have t4 : ((y.toNat : Int) != 0) = true := by
              simp only [bne_iff_ne, ne_eq]
              intro e
              exact hy0 (UInt8.toNat_inj.1 (by simpa using e))
            rw [if_pos (by intro e; exact hy0 (Option.some.inj e))] at hf
            subst hf
            replace hk81 := Lib.hid hk81
            replace hk80 := Lib.hid hk80
            replace hq := Lib.hid hq
            go_wp2
            go_ret2
            exact ⟨none, 0, 0, rfl, rfl, Nat.le_refl _, RdHds.none _ _, bw⟩
      · obtain rfl : j = X := by omega
        have t2 : decide ((j : Int) < (j : Int)) = false := by simp
        have hf := hfin.out
        rw [Nat.sub_self, hdFin] at hf
        clear hfin
        by_cases h0 : 0 < n - k
        · have t3 : decide (k < n) = true := by simp; omega
          rw [if_pos (by rw [hdl0.out]; exact h0)] at hf
          subst hf
          go_wp2
          go_ret2
          exact ⟨none, 0, 0, rfl, rfl, Nat.le_refl _, RdHds.none _ _, bw⟩
        · have t3 : decide (k < n) = false := by simp; omega
          rw [if_neg (by rw [hdl0.out]; exact h0)] at hf
          subst hf
          obtain ⟨B5, d5, rfl, hd5, _⟩ := own_form ow
          have rr := own_rd ow
          go_wp2
          go_ret2
          exact ⟨B5, j, d5, rfl, hacc.out, hd5, ⟨rr, hok⟩, bw⟩
  · rw [if_pos (by simpa using hE)] at hans
    subst hans
    have t1 : ((E : Int) != 0) = true := by simp; omega
    replace hn := Lib.hid hn
    replace hg := Lib.hid hg
    go_enter Tryd.func23, Tryd.ntmps23
    go_wp2_with (go_at_call 38; refine (HB.out).mono ?_; rintro e w1 ⟨rfl, rfl⟩)
    go_ret2
    exact ⟨none, 0, 0, rfl, rfl, Nat.le_refl _, RdHds.none _ _, Below.refl _ _⟩
end Go.Proofs.YtjgdmpbaikhflaaDoor
