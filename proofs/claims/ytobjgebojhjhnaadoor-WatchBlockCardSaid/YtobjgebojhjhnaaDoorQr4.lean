import Derived.Test.YtobjgebojhjhnaaDoorQr1
import Derived.Test.YtobjgebojhjhnaaDoorQr3
namespace Go.Proofs.YtobjgebojhjhnaaDoor
open Go.RowKit
def gw (G : List (Nat × (World → Prop))) (j : Nat) (w : World) : Prop := ∀ p ∈ G, p.1 = j → p.2 w
def okW (L : List (Nat × VP)) (G : List (Nat × (World → Prop))) (c : Nat → Value) (j : Nat) : VP := fun v w => (match L.lookup j with | none => fun v _ => v = c j | some phi => phi : VP) v w ∧ gw G j w
theorem okW_none {L : List (Nat × VP)} {G : List (Nat × (World → Prop))} {c : Nat → Value} {j : Nat} (h : L.lookup j = none) : okW L G c j = fun v w => v = c j ∧ gw G j w := by
 funext v w; unfold okW; rw [h]
theorem okW_some {L : List (Nat × VP)} {G : List (Nat × (World → Prop))} {c : Nat → Value} {j : Nat} {phi : VP} (h : L.lookup j = some phi) : okW L G c j = fun v w => phi v w ∧ gw G j w := by
 funext v w; unfold okW; rw [h]
section
variable (P : Program) (ops : Array Oper) (R : World → World → Prop)
def relWalkG (Q : Exit → Act → World → Prop) (w0 : World) (L : List (Nat × VP)) (G : List (Nat × (World → Prop))) : Nat → List Oper → Act → Prop
 | _, [], a => ∀ w, R w0 w → (∀ p ∈ G, p.2 w) → fillL ops (fun _ => true) w (fun a' => Q .normal a' w) L a
 | i, o :: rest, a => match L.lookup i with
  | none => ∃ c, (∀ w, R w0 w → fillL ops (lookOn ops o) w (fun a' => relOp P ops R o a' w (fun v w' => v = c ∧ gw G i w')) L a) ∧ relWalkG Q w0 L G (i + 1) rest (a.put o.dst c)
  | some phi => (∀ w, R w0 w → fillL ops (lookOn ops o) w (fun a' => relOp P ops R o a' w (fun v w' => phi v w' ∧ gw G i w')) L a) ∧ relWalkG Q w0 L G (i + 1) rest a
end
section
variable {P : Program} {ops : Array Oper} {R : World → World → Prop} {Q : Exit → Act → World → Prop} {w0 : World} {L : List (Nat × VP)} {G : List (Nat × (World → Prop))}
theorem relWalk_specG (a0 : Act) : ∀ (rest : List Oper) (i : Nat) (a : Act), (∀ k, k < rest.length → rest[k]? = ops[i + k]?) → relWalkG P ops R Q w0 L G i rest a → ∀ c0 : Nat → Value, a = cf ops L c0 a0 i →
  ∃ c : Nat → Value, (∀ j, j < i → c j = c0 j) ∧ (∀ j o, i ≤ j → j < i + rest.length → ops[j]? = some o → ∀ w, R w0 w → fillL ops (lookOn ops o) w (fun a' => relOp P ops R o a' w (okW L G c j)) L (cf ops L c a0 j)) ∧
   (∀ w, R w0 w → (∀ p ∈ G, p.2 w) → fillL ops (fun _ => true) w (fun a' => Q .normal a' w) L (cf ops L c a0 (i + rest.length))) := by
 have congr : ∀ (c d : Nat → Value) (i : Nat), (∀ j, j < i → c j = d j) → cf ops L c a0 i = cf ops L d a0 i := by
  intro c d i
  induction i with
  | zero => intro _; rfl
  | succ i ih =>
   intro h
   simp only [cf]
   rw [ih fun j hj => h j (by omega), h i (by omega)]
 intro rest
 induction rest with
 | nil =>
  intro i a hr h c0 ha
  subst ha
  exact ⟨c0, fun _ _ => rfl, fun j o hj hj2 ho => by simp at hj2; omega, fun w hw hg => h w hw hg⟩
 | cons o rest ih =>
  intro i a hr h c0 ha
  have ho : ops[i]? = some o := (hr 0 (by simp)).symm
  have hr' : ∀ k, k < rest.length → rest[k]? = ops[i + 1 + k]? := fun k hk => by
   have := hr (k + 1) (by simpa using hk)
   rw [List.getElem?_cons_succ] at this
   rw [this]
   congr 1
   omega
  have hd : dstAt ops i = o.dst := by simp [dstAt, ho]
  unfold relWalkG at h
  cases hl : L.lookup i with
  | none =>
   rw [hl] at h
   obtain ⟨v, h1, h2⟩ := h
   have e1 : cf ops L (fun j => if j = i then v else c0 j) a0 i = cf ops L c0 a0 i := congr _ _ _ fun j hj => if_neg (by omega)
   obtain ⟨c, hc, hob, hfin⟩ := ih (i + 1) _ hr' h2 (fun j => if j = i then v else c0 j) (by
    simp only [cf, hl, if_pos, hd]
    rw [e1, ← ha])
   have hcv : c i = v := (hc i (by omega)).trans (if_pos rfl)
   refine ⟨c, fun j hj => (hc j (by omega)).trans (if_neg (by omega)), fun j o' hj hj2 ho' => ?_, by rw [List.length_cons, show i + (rest.length + 1) = i + 1 + rest.length by omega]; exact hfin⟩
   by_cases hji : j = i
   ·subst hji
    rw [ho] at ho'
    injection ho' with ho'
    subst ho'
    intro w hw
    rw [okW_none hl, hcv, congr c c0 j (fun k hk => (hc k (by omega)).trans (if_neg (by omega))), ← ha]
    exact h1 w hw
   ·exact hob j o' (by omega) (by rw [List.length_cons] at hj2; omega) ho'
  | some phi =>
   rw [hl] at h
   obtain ⟨h1, h2⟩ := h
   obtain ⟨c, hc, hob, hfin⟩ := ih (i + 1) _ hr' h2 c0 (by simp only [cf, hl]; exact ha)
   refine ⟨c, fun j hj => hc j (by omega), fun j o' hj hj2 ho' => ?_, by rw [List.length_cons, show i + (rest.length + 1) = i + 1 + rest.length by omega]; exact hfin⟩
   by_cases hji : j = i
   ·subst hji
    rw [ho] at ho'
    injection ho' with ho'
    subst ho'
    intro w hw
    rw [okW_some hl, congr c c0 j (fun k hk => hc k (by omega)), ← ha]
    exact h1 w hw
   ·exact hob j o' (by omega) (by rw [List.length_cons] at hj2; omega) ho'
theorem relG_any {c : Nat → Value} {a0 : Act} {n g : Nat} {l : List Oper} (hl : l.toArray = ops) (hg : g = ops.size - n) (hT : tailB ops n = true) (hB : relB ops (L.map (·.1)) = true) (hkn : ∀ p ∈ L, p.1 < n) (hgn : ∀ p ∈ G, p.1 < n) (hrange : ∀ j t, dstAt ops j = some t → t < a0.tmps.size)
  (htr : ∀ a b d, R a b → R b d → R a d) (hmono : ∀ p ∈ L, ∀ v w w', R w w' → p.2 v w → p.2 v w')
  (hob : ∀ j o, j < n → ops[j]? = some o → ∀ w, R w0 w → fillL ops (lookOn ops o) w (fun a' => relOp P ops R o a' w (okW L G c j)) L (cf ops L c a0 j))
  (hsk : ∀ w, R w w) (hgm : ∀ p ∈ G, ∀ w w', R w w' → p.2 w → p.2 w')
  (hfin : ∀ w, R w0 w → (∀ p ∈ G, p.2 w) → fillL ops (fun _ => true) w (fun a' => wpList P ops Q (l.drop n) a' w) L (cf ops L c a0 n)) :
  ∀ (fuel : Nat) (listed : Array Bool) (a : Act) (w : World) (U : List Nat), U.length = fuel → (∀ i, i ∈ U ↔ i < n ∧ listed.getD i false = false) → (∀ t, n ≤ t → t < ops.size → listed.getD t true = false) → RelInv ops R w0 L c a0 listed a w → (∀ j, listed.getD j false = true → gw G j w) → U.Nodup → wpAny P .any ops Q (fuel + g) listed a w := by
 subst hl hg
 simp only [tailB, Bool.and_eq_true, decide_eq_true_eq] at hT
 obtain ⟨⟨⟨hn, hs⟩, hc⟩, hq⟩ := hT
 obtain ⟨hB1, hnd, hks⟩ := relB_spec hB
 have huniq : ∀ j t, dstAt l.toArray j = some t → ∀ k, k ≠ j → dstAt l.toArray k ≠ some t := by
  intro j t hj k hk
  cases ho : l.toArray[j]? with
  | none => simp only [dstAt, ho] at hj; cases hj
  | some o => exact (hB1 j o ho).2.2.1 k t (by simpa only [dstAt, ho, Option.bind_some] using hj) hk
 have hlt : ∀ j t, dstAt l.toArray j = some t → j < l.toArray.size := by
  intro j t hj
  rcases Nat.lt_or_ge j l.toArray.size with h | h
  ·exact h
  ·simp only [dstAt, Array.getElem?_eq_none h] at hj; cases hj
 have theTail : ∀ (listed : Array Bool) (a : Act) (w : World), RelInv l.toArray R w0 L c a0 listed a w → (∀ j, listed.getD j false = true → gw G j w) → (∀ t, n ≤ t → t < l.toArray.size → listed.getD t true = false) → (∀ i, i < n → listed.getD i false = true) → wpAny P .any l.toArray Q (l.toArray.size - n) listed a w := by
  intro listed a w hI hgh htl hall
  have h1 := fillL_at (fun j => a.tmps.getD ((dstAt l.toArray j).getD 0) undef) L _ (hfin w hI.ext fun p hp => hgh p.1 (hall p.1 (hgn p hp)) p hp rfl) (fun p hp _ => rel_vals hnd hrange hks hI p hp (hall _ (hkn p hp)))
  have e : fillA l.toArray (fun _ => true) (fun j => a.tmps.getD ((dstAt l.toArray j).getD 0) undef) L (cf l.toArray L c a0 n) = a := by
   have hd : (fillA l.toArray (fun _ => true) (fun j => a.tmps.getD ((dstAt l.toArray j).getD 0) undef) L (cf l.toArray L c a0 n)).defers = a.defers := by
    rw [fillA_defers, cf_defers, hI.defers]
   have ht : (fillA l.toArray (fun _ => true) (fun j => a.tmps.getD ((dstAt l.toArray j).getD 0) undef) L (cf l.toArray L c a0 n)).tmps = a.tmps := by
    rw [fillA_congr (E := fun j => decide (j < n)) L _ fun p hp => by simp [hkn p hp]]
    refine Array.ext_getElem? fun t => rel_agree hnd hrange huniq hI (fun j => decide (j < n)) n t fun j hj => ?_
    by_cases hjn : j < n
    ·exact .inl ⟨hall j hjn, hjn, by simp [hjn]⟩
    ·exact .inr ⟨getD_false_of_true (htl j (by omega) (hlt j t hj)), by omega, by simp [hjn]⟩
   cases hx : fillA l.toArray (fun _ => true) (fun j => a.tmps.getD ((dstAt l.toArray j).getD 0) undef) L (cf l.toArray L c a0 n)
   rw [hx] at hd ht
   cases a
   simp_all
  rw [e] at h1
  have hhead := headAll_eq hI.lsize hn hall htl
  have := wpAny_of_seq (md := .any) (Q' := Q) (l.drop n) n listed a w (fun j => by simp [List.getElem?_drop]) (by
   rw [hhead, show (l.drop n).length = l.toArray.size - n by simp]; exact hq) h1
  rwa [show (l.drop n).length = l.toArray.size - n by simp] at this
 have noReady : ∀ (listed : Array Bool), listed.size = l.toArray.size → Region.ready .any l.toArray listed = [] → ∀ i, i < l.toArray.size → listed.getD i false = true := by
  intro listed hsz hr i
  induction i using Nat.strongRecOn with
  | ind i ih =>
   intro hi
   cases hl : listed.getD i false with
   | true => rfl
   | false =>
    have : i ∈ Region.ready .any l.toArray listed := by
     rw [mem_ready]
     refine ⟨?_, l.toArray[i], Array.getElem?_eq_getElem hi, fun e he hb => ?_⟩
     ·rw [Array.getD_eq_getD_getElem?] at hl ⊢
      rw [Array.getElem?_eq_getElem (by omega)] at hl ⊢
      exact hl
     ·have := (hB1 i _ (Array.getElem?_eq_getElem hi)).2.1 e he hb
      exact ih e.on this (by omega)
    rw [hr] at this
    cases this
 intro fuel
 induction fuel with
 | zero =>
  intro listed a w U hU hin htl hI hgh _
  have hall : ∀ i, i < n → listed.getD i false = true := by
   intro i hi
   cases hl : listed.getD i false with
   | true => rfl
   | false =>
    have := (hin i).2 ⟨hi, hl⟩
    rw [List.eq_nil_of_length_eq_zero hU] at this
    cases this
  rw [Nat.zero_add]
  exact theTail listed a w hI hgh htl hall
 | succ fuel ih =>
  intro listed a w U hU hin htl hI hgh hnd2
  rw [show fuel + 1 + (l.toArray.size - n) = (fuel + (l.toArray.size - n)) + 1 by omega]
  have hne : ∃ i, i < n ∧ listed.getD i true = false := by
   cases U with
   | nil => simp at hU
   | cons u U =>
    have := (hin u).1 (List.mem_cons_self ..)
    refine ⟨u, this.1, ?_⟩
    have h2 := this.2
    rw [Array.getD_eq_getD_getElem?, Array.getElem?_eq_getElem (by rw [hI.lsize]; omega)] at h2 ⊢
    exact h2
  obtain ⟨u, hu1, hu2⟩ := hne
  have inv : HeadInv .any l.toArray n listed := ⟨hI.lsize, fun j oj hj hlj e he hb => hI.shut j oj hj hlj e he hb, htl⟩
  refine ⟨fun hr => ?_, fun i hi => ?_⟩
  ·have := noReady listed hI.lsize hr u (by omega)
   rw [getD_false_of_true hu2] at this
   cases this
  have hin' : i < n := by
   rcases Nat.lt_or_ge i n with h | h
   ·exact h
   ·exact absurd hi (tail_waits hs hc hn inv _ u rfl hu1 hu2 i h)
  rw [mem_ready] at hi
  obtain ⟨h0, o, ho, hall⟩ := hi
  have hiu := getD_false_of_true h0
  have hilt := (Array.getElem?_eq_some_iff.1 ho).1
  obtain ⟨hsel, hearly, _, hlooks⟩ := hB1 i o ho
  have hdst : dstAt l.toArray i = o.dst := by simp only [dstAt, ho, Option.bind_some]
  have hop : relOp P l.toArray R o a w (okW L G c i) := by
   refine relOp_same hsel (fun t ht => ?_) (fillL_at (fun j => a.tmps.getD ((dstAt l.toArray j).getD 0) undef) L _ (hob i o hin' ho w hI.ext) (fun p hp hD => rel_vals hnd hrange hks hI p hp ?_))
   ·refine rel_agree hnd hrange huniq hI (lookOn l.toArray o) i t fun j hj => ?_
    have hjlt := hlt j t hj
    have hoj := Array.getElem?_eq_getElem hjlt
    rcases hlooks t ht j _ hoj (by simpa only [dstAt, hoj, Option.bind_some] using hj) with ⟨h1, h2⟩ | h1 | ⟨h1, h2⟩
    ·obtain ⟨e, he, hb, hon⟩ := depOn_mem h2
     have := hall e he hb
     rw [hon] at this
     exact .inl ⟨this, h1, by unfold lookOn; rw [h2, hj]; simpa using ht⟩
    ·subst h1
     refine .inr ⟨hiu, Nat.le_refl _, ?_⟩
     unfold lookOn
     cases hD : depOn o j with
     | false => rfl
     | true =>
      obtain ⟨e, he, hb, hon⟩ := depOn_mem hD
      have := hearly e he hb
      omega
    ·refine .inr ⟨?_, by omega, ?_⟩
     ·cases hl : listed.getD j false with
      | false => rfl
      | true =>
       obtain ⟨e, he, hb, hon⟩ := depOn_mem h2
       have := hI.shut j _ hoj hl e he hb
       rw [hon, hiu] at this
       cases this
     ·unfold lookOn
      cases hD : depOn o j with
      | false => rfl
      | true =>
       obtain ⟨e, he, hb, hon⟩ := depOn_mem hD
       have := hearly e he hb
       omega
   ·have hD' : depOn o p.1 = true := by
     unfold lookOn at hD
     simp only [Bool.and_eq_true] at hD
     exact hD.1
    obtain ⟨e, he, hb, hon⟩ := depOn_mem hD'
    have := hall e he hb
    rwa [hon] at this
  have next : ∀ v w', R w w' → (okW L G c i) v w' → wpAny P .any l.toArray Q (fuel + (l.toArray.size - n)) (listed.setIfInBounds i true) (a.put o.dst v) w' := by
   intro v w' hR hok
   have hset : ∀ j, (listed.setIfInBounds i true).getD j false = true → listed.getD j false = true ∨ j = i := by
    intro j hj
    by_cases hji : i = j
    ·exact .inr hji.symm
    ·rw [getD_set_ne false hji] at hj
     exact .inl hj
   refine ih _ _ _ (U.erase i) ?_ ?_ (fun t ht ht' => (getD_set_ne true (show i ≠ t by omega)).trans (htl t ht ht')) ⟨by simp [hI.lsize], by rw [put_tmps_size, hI.size], by rw [put_defers, hI.defers], htr _ _ _ hI.ext hR, ?_, ?_, ?_, ?_⟩ ?_ ?_
   ·have := List.length_erase_of_mem ((hin i).2 ⟨hin', hiu⟩)
    omega
   ·intro k
    rw [hnd2.mem_erase_iff, hin k]
    constructor
    ·rintro ⟨h1, h2, h3⟩
     exact ⟨h2, by rw [getD_set_ne false (Ne.symm h1)]; exact h3⟩
    ·rintro ⟨h1, h2⟩
     have hki : i ≠ k := by
      rintro rfl
      rw [Array.getD_eq_getD_getElem?, Array.getElem?_setIfInBounds_self_of_lt (by rw [hI.lsize]; exact hilt)] at h2
      cases h2
     rw [getD_set_ne false hki] at h2
     exact ⟨Ne.symm hki, h1, h2⟩
   ·intro k ok hok' hkl e he hb
    rcases hset k hkl with h | h
    ·exact getD_set_true (hI.shut k ok hok' h e he hb)
    ·subst h
     rw [ho] at hok'
     injection hok' with hok'
     subst hok'
     exact getD_set_true (hall e he hb)
   ·intro j t hj ht hjl hlk
    by_cases hji : j = i
    ·subst hji
     rw [hdst] at hj
     have hok1 := hok.1
     rw [hlk] at hok1
     rw [hj, put_get_same _ _ _ (by rw [hI.size]; exact ht)]
     exact congrArg some hok1
    ·rw [put_get_ne _ _ _ _ (fun e => huniq j t hj i (Ne.symm hji) (hdst.trans e))]
     exact hI.one j t hj ht ((hset j hjl).resolve_right hji) hlk
   ·intro j t phi hj ht hjl hlk
    by_cases hji : j = i
    ·subst hji
     rw [hdst] at hj
     have hok1 := hok.1
     rw [hlk] at hok1
     rw [hj, put_get_same _ _ _ (by rw [hI.size]; exact ht)]
     exact ⟨v, rfl, hok1⟩
    ·rw [put_get_ne _ _ _ _ (fun e => huniq j t hj i (Ne.symm hji) (hdst.trans e))]
     obtain ⟨u, hu, hphi⟩ := hI.word j t phi hj ht ((hset j hjl).resolve_right hji) hlk
     exact ⟨u, hu, hmono (j, phi) (lookup_mem hlk) u w w' hR hphi⟩
   ·intro t ht
    have hi1 : (listed.setIfInBounds i true).getD i false = true := by
     rw [Array.getD_eq_getD_getElem?, Array.getElem?_setIfInBounds_self_of_lt (by rw [hI.lsize]; exact hilt)]
     rfl
    rw [put_get_ne _ _ _ _ (fun e => ht i hi1 (hdst.trans e))]
    exact hI.old t fun j hj => ht j (getD_set_true hj)
   ·intro j hj p hp hpj
    rcases hset j hj with h | h
    ·exact hgm p hp w w' hR (hgh j h p hp hpj)
    ·subst h
     exact hok.2 p hp hpj
   ·exact hnd2.erase i
  unfold relOp at hop
  unfold wpOp
  rw [ho]
  dsimp only
  by_cases hw : Region.wanted o (yielded l.toArray a.tmps) = true
  ·rw [if_pos hw] at hop ⊢
   refine .inl ?_
   unfold Oper.wp
   generalize (execOp a.eval o).run P w = r at hop ⊢
   cases r with
   | halt x w' => exact hop.elim
   | ok nx w' =>
    cases nx with
    | value v => exact next v w' hop.1 hop.2
    | skip => exact next undef w' hop.1 hop.2
    | enter f args =>
     refine Calls.mono hop ?_
     rintro e w'' ⟨v, rfl, h1, h2⟩
     exact next v w'' h1 h2
    | _ => exact hop.elim
  ·rw [if_neg hw] at hop ⊢
   exact next undef w (hsk w) hop
theorem relG_wpAny {a : Act} {w : World} {l : List Oper} (n : Nat) (L : List (Nat × VP)) (G : List (Nat × (World → Prop))) (R : World → World → Prop) (hT : tailB l.toArray n = true) (hB : relB l.toArray (L.map (·.1)) = true)
  (hkn : L.all (fun p => decide (p.1 < n)) = true) (hgn : G.all (fun p => decide (p.1 < n)) = true)
  (hrange : l.all (fun o => match o.dst with | some d => decide (d < a.tmps.size) | none => true) = true)
  (hrefl : ∀ w, R w w) (htr : ∀ a b d, R a b → R b d → R a d) (hmono : ∀ p ∈ L, ∀ v w w', R w w' → p.2 v w → p.2 v w')
  (hgm : ∀ p ∈ G, ∀ w w', R w w' → p.2 w → p.2 w')
  (h : relWalkG P l.toArray R (fun _ a' w' => wpList P l.toArray Q (l.drop n) a' w') w.drew L G 0 (l.take n) a) : wpAny P .any l.toArray Q l.toArray.size (Array.replicate l.toArray.size false) a w.drew := by
 have hT' := hT
 simp only [tailB, Bool.and_eq_true, decide_eq_true_eq] at hT'
 have hn : n < l.toArray.size := hT'.1.1.1
 have htk : (l.take n).length = n := by simp; simp at hn; omega
 obtain ⟨c, _, hob, hfin⟩ := relWalk_specG a (l.take n) 0 a (fun k hk => by rw [htk] at hk; simp [hk]) h (fun _ => undef) rfl
 rw [Nat.zero_add, htk] at hfin
 have hnone : ∀ j, ¬ (Array.replicate l.toArray.size false).getD j false = true := by
  intro j
  rw [Array.getD_eq_getD_getElem?, Array.getElem?_replicate]
  split <;> simp
 have := relG_any (G := G) (g := l.toArray.size - n) (Q := Q) (c := c) (a0 := a) rfl rfl hT hB (fun p hp => by have := List.all_eq_true.1 hkn p hp; simpa using this) (fun p hp => by have := List.all_eq_true.1 hgn p hp; simpa using this) (fun j t hj => ?_) htr hmono (fun j o hj ho => hob j o (Nat.zero_le _) (by rw [htk]; omega) ho) hrefl hgm hfin n _ a _ (List.range n) (by simp) (fun i => ?_) (fun t _ h2 => ?_) ⟨by simp, rfl, rfl, hrefl _, fun i o _ hl => absurd hl (hnone i), fun j t _ _ hl => absurd hl (hnone j), fun j t phi _ _ hl => absurd hl (hnone j), fun t _ => rfl⟩ (fun j hl => absurd hl (hnone j)) List.nodup_range
 ·rw [show n + (l.toArray.size - n) = l.toArray.size by omega] at this
  exact this
 ·rw [List.all_eq_true] at hrange
  cases ho : l[j]? with
  | none => simp [dstAt, ho] at hj
  | some o =>
   have := hrange o (List.mem_of_getElem? ho)
   have hd : o.dst = some t := by simpa [dstAt, ho] using hj
   rw [hd] at this
   simpa using this
 ·rw [List.mem_range]
  exact ⟨fun h => ⟨h, by have := hnone i; simpa using this⟩, fun h => h.1⟩
 ·rw [Array.getD_eq_getD_getElem?, Array.getElem?_replicate, if_pos h2]
  rfl
theorem wp_region_relG {id : Nat} {a : Act} {w : World} {l : List Oper} (n : Nat) (L : List (Nat × VP)) (G : List (Nat × (World → Prop))) (R : World → World → Prop) (hm : P.follows .mixedOrders = true) (hT : tailB l.toArray n = true) (hB : relB l.toArray (L.map (·.1)) = true)
  (hkn : L.all (fun p => decide (p.1 < n)) = true) (hgn : (G.map (·.1)).all (fun p => decide (p < n)) = true)
  (hrange : l.all (fun o => match o.dst with | some d => decide (d < a.tmps.size) | none => true) = true)
  (hrefl : ∀ w, R w w) (htr : ∀ a b d, R a b → R b d → R a d) (hmono : ∀ p ∈ L, ∀ v w w', R w w' → p.2 v w → p.2 v w') (hgm : ∀ p ∈ G, ∀ w w', R w w' → p.2 w → p.2 w')
  (h : relWalkG P l.toArray R (fun _ a' w' => wpList P l.toArray Q (l.drop n) a' w') w.drew L G 0 (l.take n) a) : (Code.region id l.toArray true).wp P Q a w :=
 wp_region_any hm (relG_wpAny n L G R hT hB hkn (by rw [List.all_map] at hgn; exact hgn) hrange hrefl htr hmono hgm h)
theorem relRes_mono {w : World} {ok ok' : VP} (hk : ∀ v w', ok v w' → ok' v w') {r : Result Next} (h : relRes P R w ok r) : relRes P R w ok' r := by
 cases r with
 | halt x w' => exact h
 | ok nx w' =>
  cases nx with
  | value v => exact ⟨h.1, hk _ _ h.2⟩
  | skip => exact ⟨h.1, hk _ _ h.2⟩
  | enter f args => exact Calls.mono h fun _ _ ⟨v, h1, h2, h3⟩ => ⟨v, h1, h2, hk _ _ h3⟩
  | _ => exact h
theorem gw_none {i : Nat} {w : World} (hG : ((G.map (·.1)).all fun p => p != i) = true) : gw G i w := fun p hp e => by
 rw [List.all_map, List.all_eq_true] at hG
 have := hG p hp
 simp [e] at this
theorem gel {i : Nat} {o : Oper} {rest : List Oper} {a : Act} (hrefl : ∀ w, R w w) (hG : ((G.map (·.1)).all fun p => p != i) = true)
  (h : relWalk P ops R (fun _ a' _ => relWalkG P ops R Q w0 [] G (i + 1) rest a') w0 [] i [o] a) : relWalkG P ops R Q w0 [] G i (o :: rest) a := by
 unfold relWalk at h
 unfold relWalkG
 obtain ⟨c, h1, h2⟩ := h
 refine ⟨c, fun w hw => ?_, h2 w0 (hrefl _)⟩
 have h3 : relOp P ops R o a w (fun v _ => v = c) := h1 w hw
 show relOp P ops R o a w (fun v w' => v = c ∧ gw G i w')
 unfold relOp at h3 ⊢
 split
 ·rename_i hh
  rw [if_pos hh] at h3
  exact relRes_mono (fun v w' hv => ⟨hv, gw_none hG⟩) h3
 ·rename_i hh
  rw [if_neg hh] at h3
  exact ⟨h3, gw_none hG⟩
theorem gend {i : Nat} {K : Act → Prop} {a : Act} (k : K a) : relWalk P ops R (fun _ a' _ => K a') w0 [] i [] a := fun _ _ => k
theorem gStore {i : Nat} {o : Oper} {rest : List Oper} {l : List Value} {d : List Deferred} (hw : okG ops o l = some true) (hd : o.dst = none) (h : ∀ w, R w0 w → ∃ w', (execOp (Act.eval ⟨l.toArray, d⟩) o).run P w = .ok .skip w' ∧ R w w' ∧ gw G i w')
  (k : relWalkG P ops R Q w0 [] G (i + 1) rest ⟨l.toArray, d⟩) : relWalkG P ops R Q w0 [] G i (o :: rest) ⟨l.toArray, d⟩ := by
 unfold relWalkG
 refine ⟨undef, fun w hR => ?_, by rw [hd]; exact k⟩
 show relOp P ops R o ⟨l.toArray, d⟩ w _
 unfold relOp
 rw [if_pos (wanted_okG hw)]
 obtain ⟨w', hr, h1, h2⟩ := h w hR
 rw [hr]
 exact ⟨h1, rfl, h2⟩
theorem relEndG {i : Nat} {a : Act} (h : ∀ w, R w0 w → (∀ p ∈ G, p.2 w) → Q .normal a w) : relWalkG P ops R Q w0 [] G i [] a := h
end
def RS (H : Nat) (t : TypeId) (C : List Value) (w w' : World) : Prop := Fr (fun k => k = H) w w' ∧ (Av w H t C → Av w' H t C) ∧ ((∃ l : List Value, Av w H t l ∧ l.length = C.length) → ∃ l : List Value, Av w' H t l ∧ l.length = C.length)
theorem RS.refl {H : Nat} {t : TypeId} {C : List Value} (w : World) : RS H t C w w := ⟨Fr.refl _ _, id, id⟩
theorem RS.trans {H : Nat} {t : TypeId} {C : List Value} (a b c : World) (h : RS H t C a b) (k : RS H t C b c) : RS H t C a c := ⟨h.1.trans k.1, fun x => k.2.1 (h.2.1 x), fun x => k.2.2 (h.2.2 x)⟩
theorem exec_storeAv {P : Program} {w0 w : World} {o : Oper} {ρ : Operand → Value} {g : Nat} {t : TypeId} {old C : List Value} (h0 : Av w0 g t old) (hold : old.length = C.length) (hR : RS g t C w0 w) (ty : TypeId) (x y : Operand) (ho : o.op = .store ty x y) (hx : ρ x = .pointer (some ⟨g, 0, none⟩)) (hy : ρ y = .agg C.toArray) (n : Nat) (hn : C.length = n)
  (hi : (P.info? ty).map (·.size) = some n) (h1 : C.all (·.oneCell') = true) (i : Nat) : ∃ w', (execOp ρ o).run P w = .ok .skip w' ∧ RS g t C w w' ∧ gw [(i, fun w => Av w g t C)] i w' := by
 obtain ⟨l, hl, hll⟩ := hR.2.2 ⟨old, h0, hold⟩
 have hset := setRow_heap w g l.toArray C.toArray t (0, 0) hl
 refine ⟨w.setRow g C.toArray, ?_, ⟨⟨rfl, rfl, rfl, by simp, fun k _ hk => setRow_other _ _ _ _ hk⟩, fun _ => hset, fun _ => ⟨C, hset, rfl⟩⟩, fun p hp _ => ?_⟩
 ·unfold execOp
  simp only [ho, hx, hy, Instr.storeAt, Instr.sureAddr, Sem.run_bind, Sem.run_pure, Result.andThen_ok, run_storeVar_row w g t ty l.toArray C.toArray hl (by rw [List.size_toArray, hn]; exact hi) (by rw [List.size_toArray, List.size_toArray, hll]) (by simpa using h1)]
 ·rw [List.mem_singleton.1 hp]; exact hset
theorem results_cell2 {fn : Func} {p u v : Tmp} {ty : TypeId} (h : fn.results = #[.cell p ty, .tmp u, .tmp v]) (tmps : Array Value) (P : Program) (w : World) :
  (results fn tmps).run P w = ((asAddr (tmps.getD p undef)).run P w).andThen fun a w₁ => ((loadVar ty a).run P w₁).andThen fun x w₂ => .ok (.tuple #[x, tmps.getD u undef, tmps.getD v undef]) w₂ := by
 simp only [results, h]
 simp [Sem.run_bind, Result.andThen]
theorem results_cellAv2 {fn : Func} {p u v : Tmp} {ty : TypeId} (h : fn.results = #[.cell p ty, .tmp u, .tmp v]) {tmps : Array Value} {P : Program} {w : World} {g : Nat} {t : TypeId} {C : List Value} (hp : tmps.getD p undef = .pointer (some ⟨g, 0, none⟩)) (ha : Av w g t C) (d : TypeDesc) (hu : P.underlying ty = some d) (hd : d.isRow = true)
  (n : Nat) (hn : C.length = n) (hi : (P.info? ty).map (·.size) = some n) :
  (results fn tmps).run P w = .ok (.tuple #[.agg C.toArray, tmps.getD u undef, tmps.getD v undef]) w := by
 rw [results_cell2 h, hp]
 simp only [asAddr, Sem.run_pure, Result.andThen_ok, run_loadVar_row w g t ty _ _ d ha hu (by cases d <;> first | rfl | (simp [TypeDesc.isRow] at hd)) (by rw [List.size_toArray, hn]; exact hi)]
end Go.Proofs.YtobjgebojhjhnaaDoor
namespace Go.Proofs.YtobjgebojhjhnaaDoor
open Go.RowKit
theorem results_cellU {fn : Func} {p u : Tmp} {ty : TypeId} (h : fn.results = #[.cell p ty, .tmp u]) {tmps : Array Value} {P : Program} {w : World} {g : Nat} {t : TypeId} {C : List Value} (hp : tmps.getD p undef = .pointer (some ⟨g, 0, none⟩)) (ha : Av w g t C) (d : TypeDesc) (hu : P.underlying ty = some d) (hd : d.isRow = true)
  (n : Nat) (hn : C.length = n) (hi : (P.info? ty).map (·.size) = some n) :
  (results fn tmps).run P w = .ok (.tuple #[.agg C.toArray, tmps.getD u undef]) w := by
 rw [results_cell_tmp h, hp]
 simp only [asAddr, Sem.run_pure, Result.andThen_ok, run_loadVar_row w g t ty _ _ d ha hu (by cases d <;> first | rfl | (simp [TypeDesc.isRow] at hd)) (by rw [List.size_toArray, hn]; exact hi)]
theorem wpList_binG {P : Program} {ops : Array Oper} {rest : List Oper} {a : Act} {w : World} {Q : Exit → Act → World → Prop} {d tp pos af gd} {op : BinOp} {ty ty' : TypeId} {x y : Operand} (hw : Region.wanted ⟨d, .binOp op ty x y ty', tp, pos, af, gd⟩ (yielded ops a.tmps) = true) {X Y : Value} (hx : a.eval x = X) (hy : a.eval y = Y) {c : Value}
  (h : ((do eqGuard op ty x y X Y; binOp op ty X Y : Sem Value)).run P w = .ok c w) (k : wpList P ops Q rest (a.put d c) w) : wpList P ops Q (⟨d, .binOp op ty x y ty', tp, pos, af, gd⟩ :: rest) a w := by
 refine wpList_execW hw ?_ k
 have e : execOp a.eval ⟨d, .binOp op ty x y ty', tp, pos, af, gd⟩ = (do pure (.value (← (do eqGuard op ty x y (a.eval x) (a.eval y); binOp op ty (a.eval x) (a.eval y))))) := by
  unfold execOp
  rfl
 rw [e, hx, hy, Sem.run_bind, h]
 rfl
theorem wpList_loadG {P : Program} (ty : TypeId) {w : World} {g : Nat} {t : TypeId} {l : List Value} (h : Av w g t l) {ops : Array Oper} {rest : List Oper} {a : Act} {Q : Exit → Act → World → Prop} {d tp pos af gd} {x : Operand}
  (hw : Region.wanted ⟨d, .load ty x, tp, pos, af, gd⟩ (yielded ops a.tmps) = true) (hx : a.eval x = .pointer (some ⟨g, 0, none⟩)) (dd : TypeDesc) (n : Nat) (hn : l.length = n) (hu : P.underlying ty = some dd) (hd : (match dd with | .struct _ | .array _ _ => true | _ => false) = true) (hi : (P.info? ty).map (·.size) = some n)
  (k : wpList P ops Q rest (a.put d (.agg l.toArray)) w) : wpList P ops Q (⟨d, .load ty x, tp, pos, af, gd⟩ :: rest) a w :=
 wpList_execW hw (exec_loadAv h ty x rfl hx dd n hn hu hd hi) k
end Go.Proofs.YtobjgebojhjhnaaDoor
namespace Go.Proofs.YtobjgebojhjhnaaDoor
open Go.RowKit
def RC (H : Nat) (t : TypeId) (B C : List Value) (w w' : World) : Prop := Fr (fun k => k = H) w w' ∧ (Av w H t C → Av w' H t C) ∧ (Av w H t B → Av w' H t B ∨ Av w' H t C)
theorem RC.refl {H : Nat} {t : TypeId} {B C : List Value} (w : World) : RC H t B C w w := ⟨Fr.refl _ _, id, .inl⟩
theorem RC.trans {H : Nat} {t : TypeId} {B C : List Value} (a b c : World) (h : RC H t B C a b) (k : RC H t B C b c) : RC H t B C a c :=
 ⟨h.1.trans k.1, fun x => k.2.1 (h.2.1 x), fun x => (h.2.2 x).elim k.2.2 (fun y => .inr (k.2.1 y))⟩
theorem RC.ofBelow {H : Nat} {t : TypeId} {B C : List Value} {w w' : World} (h : Below w.heap.size w w') : RC H t B C w w' :=
 ⟨Below.fr h, fun a => a.below h, fun a => .inl (a.below h)⟩
theorem exec_storeI1 {P : Program} (ty : TypeId) {w : World} {g i : Nat} {t : TypeId} {l : List Value} (h : Av w g t l) (hi : i < l.length) (kk : IntKind) (z : Int) {o : Oper} {ρ : Operand → Value} {x y : Operand} (ho : o.op = .store ty x y)
  (hx : ρ x = .pointer (some ⟨g, i, none⟩)) (hy : ρ y = .int kk z) (hs : (P.info? ty).map (·.size) = some 1) : (execOp ρ o).run P w = .ok .skip (w.setCell ⟨g, i, none⟩ (.int kk z)) := by
 have hc := h.cell i _ (List.getElem?_eq_getElem hi)
 have hf := frozen_of_row w g i _ t h
 obtain ⟨i0, hi0, hz0⟩ := Option.map_eq_some_iff.1 hs
 have hsz : ∀ w, (sizeOf ty).run P w = .ok 1 w := fun w => by simp [sizeOf, typeInfo, hi0, hz0]
 unfold execOp
 simp only [ho, hx, hy]
 go_simp
theorem RC.store {P : Program} {w0 w : World} {o : Oper} {ρ : Operand → Value} {g : Nat} {t : TypeId} {B C : List Value} (h0 : Av w0 g t B) (hR : RC g t B C w0 w) (ty : TypeId) (x y : Operand) (ho : o.op = .store ty x y) (i : Nat) (hi : i < B.length) (hi2 : i < C.length) (kk : IntKind) (z : Int)
  (hx : ρ x = .pointer (some ⟨g, i, none⟩)) (hy : ρ y = .int kk z) (hs : (P.info? ty).map (·.size) = some 1) (e1 : B.set i (.int kk z) = C) (e2 : C.set i (.int kk z) = C) (j : Nat) : ∃ w', (execOp ρ o).run P w = .ok .skip w' ∧ RC g t B C w w' ∧ gw [(j, fun w => Av w g t C)] j w' := by
 have hC : Av (w.setCell ⟨g, i, none⟩ (.int kk z)) g t C := by
  rcases hR.2.2 h0 with a | a
  ·have := a.set i (.int kk z); rwa [e1] at this
  ·have := a.set i (.int kk z); rwa [e2] at this
 refine ⟨w.setCell ⟨g, i, none⟩ (.int kk z), ?_, ⟨Fr.setCell w ⟨g, i, none⟩ _, fun _ => hC, fun _ => .inr hC⟩, fun p hp _ => ?_⟩
 ·rcases hR.2.2 h0 with a | a
  ·exact exec_storeI1 ty a hi kk z ho hx hy hs
  ·exact exec_storeI1 ty a hi2 kk z ho hx hy hs
 ·rw [List.mem_singleton.1 hp]; exact hC
end Go.Proofs.YtobjgebojhjhnaaDoor
namespace Go.Proofs.YtobjgebojhjhnaaDoor
open Go.RowKit
structure Blk where
 ka : Nat
 s : Nat
 ks : Nat
 t : TypeId
 Z : List Value
 C : List Value
def BL (Bs : List Blk) : List (Nat × VP) := Bs.map fun e => (e.ka, fun _ _ => True)
theorem BL_word {Bs : List Blk} {j : Nat} {phi : VP} (h : (BL Bs).lookup j = some phi) (v : Value) (w : World) : phi v w := by
 have := lookup_mem h
 obtain ⟨e, _, he⟩ := List.mem_map.1 this
 cases he
 trivial
structure JB (H0 : Nat) (Bs : List Blk) (listed : Array Bool) (tm : Array Value) (w : World) : Prop where
 at_ : ∀ e ∈ Bs, listed.getD e.ka false = true → ∃ b, tm[e.s]? = some (.pointer (some ⟨b, 0, none⟩)) ∧ H0 ≤ b ∧ Av w b e.t (if listed.getD e.ks false = true then e.C else e.Z)
 ne : ∀ e ∈ Bs, ∀ f ∈ Bs, e.s ≠ f.s → listed.getD e.ka false = true → listed.getD f.ka false = true → ∀ b, tm[e.s]? = some (.pointer (some ⟨b, 0, none⟩)) → tm[f.s]? ≠ some (.pointer (some ⟨b, 0, none⟩))
def spc (Bs : List Blk) (i : Nat) : Bool := Bs.any fun e => e.ka == i || e.ks == i
theorem find_ks {Bs : List Blk} {i : Nat} (h : spc Bs i = false) : (Bs.find? fun e => e.ks == i) = none := by
 rw [List.find?_eq_none]
 intro e he hi
 have := List.any_eq_false.1 h e he
 simp_all
theorem find_ka {Bs : List Blk} {i : Nat} (h : spc Bs i = false) : (Bs.find? fun e => e.ka == i) = none := by
 rw [List.find?_eq_none]
 intro e he hi
 have := List.any_eq_false.1 h e he
 simp_all
def BOk (ops : Array Oper) (n : Nat) (Bs : List Blk) : Bool :=
 Bs.all (fun e => decide (e.ka < n) && decide (dstAt ops e.ka = some e.s) && (match ops[e.ka]? with | some o => o.guard.isNone | none => false) && decide (e.ka ≠ e.ks) &&
  (decide (ops.size ≤ e.ks) || (decide (e.ks < n) && (match ops[e.ks]? with | some o => o.guard.isNone && o.dst.isNone && depOn o e.ka && (o.looksAt ops).contains e.s | none => false)))) &&
 Bs.all (fun e => Bs.all fun f => (decide (e.s = f.s) == decide (e.ka = f.ka)) && (decide (e.s = f.s) || !decide (e.ks = f.ks) || decide (ops.size ≤ e.ks)) && decide (e.ka ≠ f.ks)) &&
 decide (Bs.map (·.s)).Nodup
theorem of_nodup_map {α β : Type} {f : α → β} : ∀ {l : List α}, (l.map f).Nodup → ∀ {x y : α}, x ∈ l → y ∈ l → f x = f y → x = y
 | [], _, x, _, hx, _, _ => by cases hx
 | a :: l, h, x, y, hx, hy, e => by
  rw [List.map_cons, List.nodup_cons] at h
  rcases List.mem_cons.1 hx with rfl | hx' <;> rcases List.mem_cons.1 hy with rfl | hy'
  ·rfl
  ·exact absurd (List.mem_map.2 ⟨y, hy', e.symm⟩) h.1
  ·exact absurd (List.mem_map.2 ⟨x, hx', e⟩) h.1
  ·exact of_nodup_map h.2 hx' hy' e
structure BFacts (ops : Array Oper) (n : Nat) (Bs : List Blk) : Prop where
 lt : ∀ e ∈ Bs, e.ka < n
 dst : ∀ e ∈ Bs, dstAt ops e.ka = some e.s
 grd : ∀ e ∈ Bs, ∀ o, ops[e.ka]? = some o → o.guard = none
 self : ∀ e ∈ Bs, e.ka ≠ e.ks
 sto : ∀ e ∈ Bs, e.ks < ops.size → ∀ o, ops[e.ks]? = some o → o.guard = none ∧ o.dst = none ∧ depOn o e.ka = true ∧ e.s ∈ o.looksAt ops
 slot : ∀ e ∈ Bs, ∀ f ∈ Bs, e.s = f.s → e = f
 alloc : ∀ e ∈ Bs, ∀ f ∈ Bs, e.ka = f.ka → e = f
 store : ∀ e ∈ Bs, ∀ f ∈ Bs, e.ks < ops.size → e.ks = f.ks → e = f
 cross : ∀ e ∈ Bs, ∀ f ∈ Bs, e.ka ≠ f.ks
theorem BOk_facts {ops : Array Oper} {n : Nat} {Bs : List Blk} (h : BOk ops n Bs = true) : BFacts ops n Bs := by
 unfold BOk at h
 simp only [Bool.and_eq_true, decide_eq_true_eq, List.all_eq_true, Bool.or_eq_true, beq_iff_eq, Bool.not_eq_true', decide_eq_false_iff_not, decide_eq_decide] at h
 obtain ⟨⟨h1, h2⟩, h3⟩ := h
 have hslot : ∀ e ∈ Bs, ∀ f ∈ Bs, e.s = f.s → e = f := fun e he f hf hs => of_nodup_map h3 he hf hs
 refine ⟨fun e he => (h1 e he).1.1.1.1, fun e he => (h1 e he).1.1.1.2, fun e he o ho => ?_, fun e he => (h1 e he).1.2, fun e he hlt o ho => ?_, hslot, fun e he f hf hk => ?_, fun e he f hf hlt hk => ?_, fun e he f hf => (h2 e he f hf).2⟩
 ·have := (h1 e he).1.1.2
  rw [ho] at this
  simpa using this
 ·rcases (h1 e he).2 with h | ⟨_, h⟩
  ·omega
  ·rw [ho] at h
   simp only [Bool.and_eq_true, Option.isNone_iff_eq_none, List.contains_iff_mem] at h
   exact ⟨h.1.1.1, h.1.1.2, h.1.2, h.2⟩
 ·exact hslot e he f hf ((h2 e he f hf).1.1.2 hk)
 ·rcases (h2 e he f hf).1.2 with (h | h) | h
  ·exact hslot e he f hf h
  ·exact absurd hk h
  ·omega
section
variable {P : Program} {ops : Array Oper} {Q : Exit → Act → World → Prop} {w0 : World} {Bs : List Blk}
theorem BL_lookup {e : Blk} : ∀ {Bs : List Blk}, e ∈ Bs → (BL Bs).lookup e.ka ≠ none
 | [], h => by cases h
 | f :: r, h => by
  simp only [BL, List.map_cons, List.lookup]
  split
  ·simp
  ·rename_i hk
   rcases List.mem_cons.1 h with rfl | h
   ·simp at hk
   ·exact BL_lookup h
theorem BL_none {i : Nat} : ∀ {Bs : List Blk}, (∀ e ∈ Bs, e.ka ≠ i) → (BL Bs).lookup i = none
 | [], _ => rfl
 | f :: r, h => by
  simp only [BL, List.map_cons, List.lookup]
  split
  ·rename_i hk
   simp at hk
   exact absurd hk.symm (h f (List.mem_cons_self ..))
  ·exact BL_none fun e he => h e (List.mem_cons_of_mem _ he)
theorem BL_vals (V : Nat → Value) (w : World) : ∀ p ∈ BL Bs, p.2 (V p.1) w := by
 intro p hp
 obtain ⟨e, _, rfl⟩ := List.mem_map.1 hp
 trivial
theorem JB.normal {H0 i : Nat} {listed : Array Bool} {a : Act} {w w' : World} (h : JB H0 Bs listed a.tmps w) (hi : ∀ e ∈ Bs, e.ka ≠ i ∧ e.ks ≠ i) {d : Option Tmp} (hd : ∀ e ∈ Bs, d ≠ some e.s) (hE : Below w.heap.size w w') (v : Value) : JB H0 Bs (listed.setIfInBounds i true) (a.put d v).tmps w' := by
 have t : ∀ e ∈ Bs, (a.put d v).tmps[e.s]? = a.tmps[e.s]? := fun e he => put_get_ne _ _ _ _ (hd e he)
 have k1 : ∀ e ∈ Bs, (listed.setIfInBounds i true).getD e.ka false = listed.getD e.ka false := fun e he => getD_set_ne false (Ne.symm (hi e he).1)
 have k2 : ∀ e ∈ Bs, (listed.setIfInBounds i true).getD e.ks false = listed.getD e.ks false := fun e he => getD_set_ne false (Ne.symm (hi e he).2)
 refine ⟨fun e he hl => ?_, fun e he f hf hs h1 h2 b hb => ?_⟩
 ·rw [k1 e he] at hl
  obtain ⟨b, p, q, r⟩ := h.at_ e he hl
  exact ⟨b, by rw [t e he]; exact p, q, by rw [k2 e he]; exact r.below hE⟩
 ·rw [k1 e he] at h1
  rw [k1 f hf] at h2
  rw [t e he] at hb
  rw [t f hf]
  exact h.ne e he f hf hs h1 h2 b hb
theorem JB.alloc {H0 i n : Nat} {listed : Array Bool} {a : Act} {w : World} (h : JB H0 Bs listed a.tmps w) (F : BFacts ops n Bs) {e : Blk} (he : e ∈ Bs) (hei : e.ka = i) (hno : listed.getD e.ks false = false) (_ : i < listed.size) (hs : e.s < a.tmps.size) (hH : H0 ≤ w.heap.size) :
  JB H0 Bs (listed.setIfInBounds i true) (a.put (some e.s) (.pointer (some ⟨w.heap.size, 0, none⟩))).tmps (w.alloc (.cells e.Z.toArray e.t (0, 0))) := by
 have t0 : (a.put (some e.s) (.pointer (some ⟨w.heap.size, 0, none⟩))).tmps[e.s]? = some (.pointer (some ⟨w.heap.size, 0, none⟩)) := put_get_same _ _ _ hs
 have t : ∀ f ∈ Bs, f ≠ e → (a.put (some e.s) (.pointer (some ⟨w.heap.size, 0, none⟩))).tmps[f.s]? = a.tmps[f.s]? := fun f hf hn => put_get_ne _ _ _ _ (fun q => hn (F.slot f hf e he (Option.some.inj q).symm))
 have k1 : ∀ f ∈ Bs, f ≠ e → (listed.setIfInBounds i true).getD f.ka false = listed.getD f.ka false := fun f hf hn => getD_set_ne false (fun q => hn (F.alloc f hf e he (by omega)))
 have k2 : ∀ f ∈ Bs, (listed.setIfInBounds i true).getD f.ks false = listed.getD f.ks false := fun f hf => getD_set_ne false (fun q => F.cross e he f hf (by omega))
 have lo : ∀ f ∈ Bs, f ≠ e → (listed.setIfInBounds i true).getD f.ka false = true → ∀ b, (a.put (some e.s) (.pointer (some ⟨w.heap.size, 0, none⟩))).tmps[f.s]? = some (.pointer (some ⟨b, 0, none⟩)) → b < w.heap.size := by
  intro f hf hn hl b hb
  rw [k1 f hf hn] at hl
  obtain ⟨b', p, _, r⟩ := h.at_ f hf hl
  rw [t f hf hn, p] at hb
  simp at hb
  subst hb
  exact r.lt
 refine ⟨fun f hf hl => ?_, fun f hf g hg hsn h1 h2 b hb hb' => ?_⟩
 ·by_cases hn : f = e
  ·subst hn
   refine ⟨_, t0, hH, ?_⟩
   rw [k2 f hf, hno]
   exact heap_alloc_new _ _
  ·rw [k1 f hf hn] at hl
   obtain ⟨b, p, q, r⟩ := h.at_ f hf hl
   exact ⟨b, by rw [t f hf hn]; exact p, q, by rw [k2 f hf]; exact r.alloc _⟩
 ·by_cases hn : f = e
  ·subst hn
   have hg' : g ≠ f := fun q => hsn (by rw [q])
   rw [t0] at hb
   simp at hb
   have := lo g hg hg' h2 b hb'
   omega
  ·by_cases hm : g = e
   ·subst hm
    rw [t0] at hb'
    simp at hb'
    have := lo f hf hn h1 b hb
    omega
   ·rw [k1 f hf hn] at h1
    rw [k1 g hg hm] at h2
    rw [t f hf hn] at hb
    rw [t g hg hm] at hb'
    exact h.ne f hf g hg hsn h1 h2 b hb hb'
theorem JB.store {H0 i n : Nat} {listed : Array Bool} {tm : Array Value} {w w' : World} (h : JB H0 Bs listed tm w) (F : BFacts ops n Bs) {e : Blk} (he : e ∈ Bs) (hei : e.ks = i) (hi : i < listed.size) (hi2 : i < ops.size) (hka : listed.getD e.ka false = true) {b : Nat} (hb : tm[e.s]? = some (.pointer (some ⟨b, 0, none⟩))) (hA : Av w' b e.t e.C) (hF : Fr (fun k => k = b) w w') :
  JB H0 Bs (listed.setIfInBounds i true) tm w' := by
 have k1 : ∀ f ∈ Bs, (listed.setIfInBounds i true).getD f.ka false = listed.getD f.ka false := fun f hf => getD_set_ne false (fun q => F.cross f hf e he (by omega))
 have k2 : ∀ f ∈ Bs, f ≠ e → (listed.setIfInBounds i true).getD f.ks false = listed.getD f.ks false := fun f hf hn => getD_set_ne false (fun q => hn (F.store e he f hf (by omega) (by omega)).symm)
 have k0 : (listed.setIfInBounds i true).getD e.ks false = true := by
  rw [hei, Array.getD_eq_getD_getElem?, Array.getElem?_setIfInBounds_self_of_lt hi]
  rfl
 refine ⟨fun f hf hl => ?_, fun f hf g hg hs h1 h2 b hb => h.ne f hf g hg hs (by rw [← k1 f hf]; exact h1) (by rw [← k1 g hg]; exact h2) b hb⟩
 rw [k1 f hf] at hl
 obtain ⟨c, p, q, r⟩ := h.at_ f hf hl
 refine ⟨c, p, q, ?_⟩
 by_cases hn : f = e
 ·subst hn
  rw [k0, if_pos rfl]
  rw [hb] at p
  simp at p
  subst p
  exact hA
 ·rw [k2 f hf hn]
  refine hF.av r fun hc => ?_
  subst hc
  exact h.ne e he f hf (fun q => hn (F.slot e he f hf q).symm) hka hl c hb p
def BOb (P : Program) (ops : Array Oper) (w0 : World) (Bs : List Blk) (c : Nat → Value) (j : Nat) (o : Oper) (a : Act) : Prop :=
 match Bs.find? fun e => e.ks == j with
 | some e => ∀ w, Ext w0 w → fillL ops (lookOn ops o) w (fun a' => ∀ b, a'.tmps[e.s]? = some (.pointer (some ⟨b, 0, none⟩)) → Av w b e.t e.Z → ∃ w', (execOp a'.eval o).run P w = .ok .skip w' ∧ Av w' b e.t e.C ∧ Fr (fun k => k = b) w w') (BL Bs) a
 | none => match Bs.find? fun e => e.ka == j with
  | some e => ∀ (ρ : Operand → Value) w, (execOp ρ o).run P w = .ok (.value (.pointer (some ⟨w.heap.size, 0, none⟩))) (w.alloc (.cells e.Z.toArray e.t (0, 0)))
  | none => ∀ w, Ext w0 w → fillL ops (lookOn ops o) w (fun a' => relOp P ops Ext o a' w (fun u _ => u = c j)) (BL Bs) a
def relWalkB (P : Program) (ops : Array Oper) (w0 : World) (Bs : List Blk) (Q : Exit → Act → World → Prop) : Nat → List Oper → Act → Prop
 | _, [], a => ∀ w, Ext w0 w → fillL ops (fun _ => true) w (fun a' => Q .normal a' w) (BL Bs) a
 | i, o :: rest, a => match Bs.find? fun e => e.ks == i with
  | some e => (∀ w, Ext w0 w → fillL ops (lookOn ops o) w (fun a' => ∀ b, a'.tmps[e.s]? = some (.pointer (some ⟨b, 0, none⟩)) → Av w b e.t e.Z → ∃ w', (execOp a'.eval o).run P w = .ok .skip w' ∧ Av w' b e.t e.C ∧ Fr (fun k => k = b) w w') (BL Bs) a) ∧ o.dst = none ∧ relWalkB P ops w0 Bs Q (i + 1) rest a
  | none => match Bs.find? fun e => e.ka == i with
   | some e => (∀ (ρ : Operand → Value) w, (execOp ρ o).run P w = .ok (.value (.pointer (some ⟨w.heap.size, 0, none⟩))) (w.alloc (.cells e.Z.toArray e.t (0, 0)))) ∧ relWalkB P ops w0 Bs Q (i + 1) rest a
   | none => ∃ c, (∀ w, Ext w0 w → fillL ops (lookOn ops o) w (fun a' => relOp P ops Ext o a' w (fun v _ => v = c)) (BL Bs) a) ∧ relWalkB P ops w0 Bs Q (i + 1) rest (a.put o.dst c)
variable {i : Nat} {o : Oper} {rest : List Oper} {l l' : List Value} {d : List Deferred}
theorem bC (hL : spc Bs i = false) (hD : ((BL Bs).all fun p => !lookOn ops o p.1) = true) (hw : okG ops o l = some true) {t : Nat} (ht : o.dst = some t) {c : Value}
  (h : ∀ w, Ext w0 w → relRes P Ext w (fun v _ => v = c) ((execOp (Act.eval ⟨l.toArray, d⟩) o).run P w)) (hl : l.set t c = l') (k : relWalkB P ops w0 Bs Q (i + 1) rest ⟨l'.toArray, d⟩) : relWalkB P ops w0 Bs Q i (o :: rest) ⟨l.toArray, d⟩ := by
 subst hl
 unfold relWalkB
 rw [find_ks hL, find_ka hL]
 refine ⟨c, fun w hR => fill_none hD ?_, ?_⟩
 ·unfold relOp
  rw [if_pos (wanted_okG hw)]
  exact h w hR
 ·rw [ht, put_lit]
  exact k
theorem bStoreRow {w : World} {o : Oper} {ρ : Operand → Value} {b : Nat} {t : TypeId} {Z C : List Value} (h0 : Av w b t Z) (hz : Z.length = C.length) (ty : TypeId) (x y : Operand) (ho : o.op = .store ty x y) (hx : ρ x = .pointer (some ⟨b, 0, none⟩)) (hy : ρ y = .agg C.toArray) (n : Nat) (hn : C.length = n)
  (hi : (P.info? ty).map (·.size) = some n) (h1 : C.all (·.oneCell') = true) : ∃ w', (execOp ρ o).run P w = .ok .skip w' ∧ Av w' b t C ∧ Fr (fun k => k = b) w w' := by
 have hset := setRow_heap w b Z.toArray C.toArray t (0, 0) h0
 refine ⟨w.setRow b C.toArray, ?_, hset, ⟨rfl, rfl, rfl, by simp, fun k _ hk => setRow_other _ _ _ _ hk⟩⟩
 unfold execOp
 simp only [ho, hx, hy, Instr.storeAt, Instr.sureAddr, Sem.run_bind, Sem.run_pure, Result.andThen_ok, run_storeVar_row w b t ty Z.toArray C.toArray h0 (by rw [List.size_toArray, hn]; exact hi) (by rw [List.size_toArray, List.size_toArray, hz]) (by simpa using h1)]
end
end Go.Proofs.YtobjgebojhjhnaaDoor
