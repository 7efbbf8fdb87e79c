/- Ry; Ri: put together for the claim. -/
import Derived.Test.YtmdllemgjhkphaaDoorPr18
import Derived.Test.YtmdllemgjhkphaaDoorPr10
import Derived.Test.YtmdllemgjhkphaaDoorLvs
/- Flags made at once: the digits laid into zeros. -/
namespace Go.Proofs.YtmdllemgjhkphaaDoor
open Go.RowKit
/-- the first k digits as bytes, among m bytes -/
def flF (ds : List Bool) (m k : Nat) : List UInt8 := pFlags (ds.take k) ++ List.replicate (m - (k + 7) / 8) 0
theorem flF_zero (ds : List Bool) (m : Nat) : flF ds m 0 = List.replicate m 0 := by
  unfold flF
  rw [List.take_zero]
  rfl
theorem flF_all (ds : List Bool) : flF ds ((ds.length + 7) / 8) ds.length = pFlags ds := by
  unfold flF
  rw [List.take_length, Nat.sub_self, List.replicate_zero, List.append_nil]
theorem flF_length (ds : List Bool) (k : Nat) (hk : k ≤ ds.length) : (flF ds ((ds.length + 7) / 8) k).length = (ds.length + 7) / 8 := by
  unfold flF
  rw [List.length_append, pFlags_length, List.length_replicate, List.length_take, Nat.min_eq_left hk]
  omega
theorem flP_eq (ds : List Bool) (k : Nat) (hk : k < ds.length) : pFlP (pFlags (ds.take k)) k ++ List.replicate ((ds.length + 7) / 8 - (k + 1 + 7) / 8) 0 = flF ds ((ds.length + 7) / 8) k := by
  unfold flF pFlP
  split
  · rw [List.append_assoc]
    congr 1
    rw [show (ds.length + 7) / 8 - (k + 7) / 8 = ((ds.length + 7) / 8 - (k + 1 + 7) / 8) + 1 by omega, List.replicate_succ]
    rfl
  · rw [show (ds.length + 7) / 8 - (k + 7) / 8 = ((ds.length + 7) / 8 - (k + 1 + 7) / 8) by omega]
theorem flF_step (ds : List Bool) (k : Nat) (d : Bool) (hd : ds[k]? = some d) :
    flF ds ((ds.length + 7) / 8) (k + 1) = if d then (flF ds ((ds.length + 7) / 8) k).set (k / 8) (orBit ((flF ds ((ds.length + 7) / 8) k).getD (k / 8) 0) (k % 8)) else flF ds ((ds.length + 7) / 8) k := by
  obtain ⟨hk, _⟩ := List.getElem?_eq_some_iff.1 hd
  have e := flP_eq ds k hk
  have hl : (pFlags (ds.take k)).length = (k + 7) / 8 := by rw [pFlags_length, List.length_take, Nat.min_eq_left (by omega)]
  have hp := pFlP_length hl
  rw [← e]
  have ht : ds.take (k + 1) = ds.take k ++ [d] := by rw [List.take_add_one, hd]; rfl
  have h1 : flF ds ((ds.length + 7) / 8) (k + 1) = pFlS (pFlags (ds.take k)) k d ++ List.replicate ((ds.length + 7) / 8 - (k + 1 + 7) / 8) 0 := by
    unfold flF
    rw [ht, pFlags_snoc, List.length_take, Nat.min_eq_left (by omega)]
  rw [h1]
  unfold pFlS
  split
  · have hlt : k / 8 < (pFlP (pFlags (ds.take k)) k).length := by omega
    rw [List.set_append, if_pos hlt]
    congr 3
    rw [List.getD_eq_getElem?_getD, List.getD_eq_getElem?_getD, List.getElem?_append_left hlt]
  · rfl
end Go.Proofs.YtmdllemgjhkphaaDoor
/- florinref10.Levels. -/
namespace Go.Proofs.YtmdllemgjhkphaaDoor
open Go.RowKit
theorem blt_of {w : World} {A : Option Addr} {x : List (List UInt8)} (hx : All32 x) (h0 : 0 < x.length) (h : Rd w A (hcl x)) : ∀ a, A = some a → a.block < w.heap.size := by
  intro a ha
  rcases h with h | ⟨b', off', hA, hc'⟩
  · exact absurd h (hcl_ne hx h0)
  · rw [hA] at ha; cases ha
    have hl := hcl_length hx
    have h1 := hc' 0 _ (List.getElem?_eq_getElem (by rw [hl]; omega))
    exact World.block_lt_of_cell? w _ h1
set_option maxRecDepth 10000 in
set_option maxHeartbeats 2000000 in
theorem LevelsR (l : List (List UInt8)) (h32 : All32 l) (A0 : Option Addr) (m c0 : Nat) (hm : l.length = m) (w : World) (hr : Rd w A0 (hcl l)) :
    Calls Tryd.prog 29 #[.slice A0 m c0] w fun e w' => ∃ v ps, e = .returned v ∧ w'.ownsRow w.heap.size 23 1 v (mLv l).length (scl ps (mLv l)) ∧ LvAt w' ps (mLv l) ∧ (∀ p ∈ ps, ∀ a, p.1 = some a → v.ownBlock ≠ some a.block) ∧ Below w.heap.size w w' := by
  obtain ⟨i0, hi0, hz0, hz1, hz2⟩ := info_parts info_hs
  by_cases hz : m = 0
  · subst hz
    rw [mLv, if_pos (.inl hm)]
    go_enter Tryd.func29, Tryd.ntmps29
    go_wp2
    go_ret
    exact ⟨_, [], rfl, World.ownsRow_nil _ _ _ _, ⟨rfl, fun i p x hp => by simp at hp⟩, fun p hp => (by cases hp), Below.refl _ _⟩
  by_cases hbig : 4096 < m
  · have z1 : ((m : Int) == 0) = false := by simp; omega
    have z2 : decide ((4096 : Int) < (m : Int)) = true := by simp; omega
    rw [mLv, if_pos (.inr (by omega))]
    go_enter Tryd.func29, Tryd.ntmps29
    go_wp2
    go_ret
    exact ⟨_, [], rfl, World.ownsRow_nil _ _ _ _, ⟨rfl, fun i p x hp => by simp at hp⟩, fun p hp => (by cases hp), Below.refl _ _⟩
  have z1 : ((m : Int) == 0) = false := by simp; omega
  have z2 : decide ((4096 : Int) < (m : Int)) = false := by simp; omega
  have hlv : mLv l = mLvF 12 l := by rw [mLv, if_neg (by omega)]
  have hlen13 := mLv_len l
  have hmem := fun x hx => mLv_mem l h32 x hx
  generalize mLv l = lvs at *
  have hmade : (w.alloc (.cells #[] 28)).ownsRow w.heap.size 28 32 (.slice (some ⟨w.heap.size, 0, none⟩) 0 0) 0 (hcl []) := World.ownsRow_made w #[] 0 (Nat.le_refl _) (by simp [maxLen]) rfl
  have hb1 := (Below.refl w.heap.size w).alloc (Nat.le_refl _) (.cells #[] 28)
  have hr1 := hr.below hb1
  have Hn := Lib.hid hm
  have hmem := Lib.hid hmem
  clear hm hr
  go_enter Tryd.func29, Tryd.ntmps29
  go_wp2_with (first
    | (at_builtin; refine wpList_appH hmade hb1 (by simp) h32 m c0 hr1 Hn.out (by omega) rfl (.tmp 13) (.tmp 14) rfl rfl rfl ?_; intro v1 w1 own1 b1 s1 g1 ob1; rw [Nat.zero_add, List.nil_append] at own1; obtain ⟨A1, c1, rfl, hc1, hm1⟩ := own_form own1)
    | (at_builtin; refine wpList_append_rd (w1.alloc (.cells #[.slice A1 m c1] 23)) rfl (.tmp 16) (.tmp 18) 68 rfl w.heap.size 23 i0 (.slice none 0 0) 1 24 Tryd.underlying68 hi0 hz0 hz1 hz2 rfl (by decide) (.slice none 0 0) 0 (scl [] []) rfl (World.ownsRow_nil _ _ _ _) (some ⟨w1.heap.size, 0, none⟩) 1 1 [.slice A1 m c1] rfl rfl (Rd.one _ _ _) (by simp [Value.oneCell']) (by simp only [maxLen]; omega) (by omega) (by have := b1.size; simp; omega) ?_; intro v2 w2 own2 g2 ob2))
  have e : ∀ (v : World) (o : Obj), (v.alloc o).heap.size = v.heap.size + 1 := fun v o => by simp
  have hal : (w1.alloc (.cells #[.slice A1 m c1] 23)).heap.size = w1.heap.size + 1 := e _ _
  rw [hal] at ob2
  have bA : Below w1.heap.size w1 (w1.alloc (.cells #[.slice A1 m c1] 23)) := (Below.refl _ _).alloc (Nat.le_refl _) _
  have rd1 : Rd w2 A1 (hcl l) := ((own_rd own1).below bA).grownOther g2 (fun a ha e => by cases e)
  have bl1 := blt_of h32 (by rw [Hn.out]; omega) (own_rd own1)
  have b2 : Below w.heap.size w w2 := by
    have := b1.trans (bA.mono b1.size)
    exact own_app (base := w.heap.size) this (World.ownsRow_nil _ w.heap.size 23 1) g2 (by rw [hal]; have := b1.size; omega)
  have nb2 : ∀ a, A1 = some a → v2.ownBlock ≠ some a.block := fun a ha e' => by
    have := bl1 a ha
    rcases ob2 with h1 | h1
    · rw [h1] at e'; cases e'
    · rw [h1] at e'; injection e' with e'; omega
  have hl0 : 0 < lvs.length := by rw [hlv, mLvF]; split <;> simp
  have htk1 : lvs.take 1 = [l] := by rw [hlv, mLvF]; split <;> rfl
  have lv2 : LvAt w2 [(A1, c1)] (lvs.take 1) := by
    rw [htk1]
    exact LvAt.snoc (ps := []) (ls := []) ⟨rfl, fun i p x hp => by simp at hp⟩ rd1 (by rw [Hn.out]; exact hc1)
  have own2' : w2.ownsRow w.heap.size 23 1 v2 (0 + 1) (scl [(A1, c1)] (lvs.take 1)) := by
    rw [htk1]
    have : scl [(A1, c1)] [l] = [.slice A1 m c1] := by rw [← Hn.out]; rfl
    rw [this]; exact own2
  clear own2 g2 ob2 own1 g1 ob1 hmade hb1 hr1
  go_loopw [3, 4] (fun o a wr => ∃ (f j : Nat) (x : List (List UInt8)) (A : Option Addr) (c : Nat) (ps : List (Option Addr × Nat)), a = .slice A x.length c ∧ x.length ≤ c ∧ lvs.drop j = mLvF f x ∧ j < lvs.length ∧ 0 < x.length ∧ x.length ≤ 4096 ∧ x.length ≤ 2 ^ f ∧ All32 x ∧ Rd wr A (hcl x) ∧ wr.ownsRow w.heap.size 23 1 o (j + 1) (scl ps (lvs.take (j + 1))) ∧ LvAt wr ps (lvs.take (j + 1)) ∧ (∀ p ∈ ps, ∀ a, p.1 = some a → o.ownBlock ≠ some a.block) ∧ Below w.heap.size w wr) (fun _ a _ => sliceLen a)
  case atStart =>
    exact ⟨12, 0, l, A1, c1, [(A1, c1)], by rw [Hn.out], by rw [Hn.out]; exact hc1, by rw [List.drop_zero, hlv], hl0, by rw [Hn.out]; omega, by rw [Hn.out]; omega, by rw [Hn.out]; omega, h32, rd1, own2', lv2, fun p hp a ha => by obtain rfl := List.mem_singleton.1 hp; exact nb2 a ha, b2⟩
  case round =>
    clear own2' lv2 nb2 b2 rd1
    obtain ⟨f, j, x, A, c, ps, rfl, hxc, hdrop, hj, hx0, hx4, hxf, hx32, hrx, ho, hlvs, hnb, hb⟩ := hrel
    obtain ⟨k, hk⟩ : ∃ k, x.length = k := ⟨_, rfl⟩
    obtain ⟨Ao, co, rfl, hco, hcm⟩ := own_form ho
    rw [hk] at hxc hx0 hx4 hxf ⊢
    replace hk := Lib.hid hk
    replace hlvs := Lib.hid hlvs
    replace hnb := Lib.hid hnb
    by_cases h1 : 1 < k
    · have t1 : decide ((1 : Int) < (k : Int)) = true := by simp; omega
      have HU := Lib.hid (upR x hx32 A k c wr hrx hk.out hx4)
      go_wp2_with fail
      refine HU.out.mono ?_
      rintro e w2 ⟨v2, rfl, own2, b2⟩
      obtain ⟨A2, c2, rfl, hc2, hm2⟩ := own_form own2
      obtain ⟨k2, hk2⟩ : ∃ k2, (k + 1) / 2 = k2 := ⟨_, rfl⟩
      rw [hk2] at own2 hc2 ⊢
      have ho2 := own_below ho b2
      have hle : (j + 1 + 1) * 24 ≤ 140737488355328 := by omega
      clear HU
      go_wp2_with (at_builtin; refine wpList_append_rd (w2.alloc (.cells #[.slice A2 k2 c2] 23)) rfl (.tmp 25) (.tmp 27) 68 rfl w.heap.size 23 i0 (.slice none 0 0) 1 24 Tryd.underlying68 hi0 hz0 hz1 hz2 rfl (by decide) (.slice Ao (j + 1) co) (j + 1) (scl ps (lvs.take (j + 1))) rfl (ho2.alloc _) (some ⟨w2.heap.size, 0, none⟩) 1 1 [.slice A2 k2 c2] rfl rfl (Rd.one _ _ _) (by simp [Value.oneCell']) (by simp only [maxLen]; omega) hle (by have := b2.size; have := hb.size; simp; omega) ?_; intro v3 w3 o3 gr3 ob3)
      have hal : (w2.alloc (.cells #[.slice A2 k2 c2] 23)).heap.size = w2.heap.size + 1 := e _ _
      rw [hal] at ob3
      have bA : Below w2.heap.size w2 (w2.alloc (.cells #[.slice A2 k2 c2] 23)) := (Below.refl _ _).alloc (Nat.le_refl _) _
      have oA := own_below ho2 bA
      have olt := World.ownsRow.lt ho
      have o2lt := World.ownsRow.lt own2
      have hmx : (mUp x).length = k2 := by rw [mUp_length, hk.out, hk2]
      have n2 : ∀ a, A2 = some a → (Value.slice Ao (j + 1) co).ownBlock ≠ some a.block := fun a ha e' => by
        have h2 := (olt _ e').2
        have h3 := (o2lt a.block (by subst ha; rfl)).1
        omega
      have ke : ∀ A' xs, Rd w2 A' xs → (∀ a, A' = some a → (Value.slice Ao (j + 1) co).ownBlock ≠ some a.block) → Rd w3 A' xs := fun A' xs h hn' => (h.below bA).grownOther gr3 hn'
      have hnew : ∀ A' y, All32 y → 0 < y.length → Rd w2 A' (hcl y) → (∀ a, A' = some a → (Value.slice Ao (j + 1) co).ownBlock ≠ some a.block) → ∀ a, A' = some a → v3.ownBlock ≠ some a.block := by
        intro A' y hy h0 h hn' a ha e'
        have := blt_of hy h0 h a ha
        rcases ob3 with h1 | h1
        · exact hn' a ha (h1.symm.trans e')
        · rw [h1] at e'; injection e' with e'; omega
      obtain ⟨f', rfl, hf1, hf2⟩ := mLvF_more f x (by rw [hk.out]; exact h1) (by rw [hk.out]; exact hxf)
      have hd2 : lvs.drop (j + 1) = mLvF f' (mUp x) := by
        rw [← List.drop_drop, hdrop, hf1]; rfl
      have hj2 : j + 1 < lvs.length := by
        rcases Nat.lt_or_ge (j + 1) lvs.length with h | h
        · exact h
        · exfalso
          rw [List.drop_of_length_le h] at hd2
          cases f' with
          | zero => cases hd2
          | succ f' => rw [mLvF] at hd2; split at hd2 <;> cases hd2
      have hget : lvs[j + 1]? = some (mUp x) := by
        have : (lvs.drop (j + 1))[0]? = some (mUp x) := by
          rw [hd2]
          cases f' with
          | zero => rfl
          | succ f' => rw [mLvF]; split <;> rfl
        simpa using this
      have htk : lvs.take (j + 1 + 1) = lvs.take (j + 1) ++ [mUp x] := by rw [List.take_add_one, hget]; rfl
      have rd2 := own_rd own2
      have rd3 := ke A2 _ rd2 n2
      refine ⟨⟨f', j + 1, mUp x, A2, c2, ps ++ [(A2, c2)], by rw [hmx], by rw [hmx]; exact hc2, hd2, hj2, by rw [hmx]; omega, by rw [hmx]; omega, hf2, mUp_32 x, rd3, ?_, ?_, ?_, ?_⟩, ?_⟩
      · rw [htk, scl_snoc _ _ hlvs.out.1, hmx]; exact o3
      · rw [htk]
        exact LvAt.snoc (LvAt.keep (hlvs.out.below b2) fun p hp xs h => ke p.1 xs h (hnb.out p hp)) rd3 (by rw [hmx]; exact hc2)
      · intro p hp a ha
        rcases List.mem_append.1 hp with hp | hp
        · obtain ⟨i, hi⟩ := List.mem_iff_getElem?.1 hp
          have hil : i < (lvs.take (j + 1)).length := by rw [← hlvs.out.1]; exact (List.getElem?_eq_some_iff.1 hi).1
          have hy := List.getElem?_eq_getElem hil
          have hym := hmem.out (lvs.take (j + 1))[i] (List.mem_of_mem_take (List.getElem_mem hil))
          exact hnew p.1 _ hym.1 hym.2.1 ((hlvs.out.2 i p _ hi hy).1.below b2) (hnb.out p hp) a ha
        · obtain rfl := List.mem_singleton.1 hp
          exact hnew A2 _ (mUp_32 x) (by rw [hmx]; omega) rd2 n2 a ha
      · exact own_app (base := w.heap.size) ((hb.trans (b2.mono hb.size)).trans (bA.mono (by have := b2.size; have := hb.size; omega))) oA gr3 (by rw [hal]; have := b2.size; have := hb.size; omega)
      · simp only [sliceLen]; omega
    · have t1 : decide ((1 : Int) < (k : Int)) = false := by simp; omega
      have hl2 : lvs.length = j + 1 := by
        have := congrArg List.length hdrop
        rw [mLvF_one f x (by rw [hk.out]; omega), List.length_drop] at this
        simp at this
        omega
      go_wp2
      go_ret
      have htl : lvs.take (j + 1) = lvs := List.take_of_length_le (by omega)
      rw [htl] at ho
      have hv := hlvs.out
      rw [htl] at hv
      exact ⟨_, ps, rfl, by rw [hl2]; exact ho, hv, hnb.out, hb⟩
end Go.Proofs.YtmdllemgjhkphaaDoor
