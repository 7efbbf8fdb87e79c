/- Layer 4: the law 'bytes with their number ahead are got again': its walk. -/
import Derived.Test.YtkbjlbcofooajaaCOnce
import Derived.Test.YtkbjlbcofooajaaMinMax
namespace Go.Proofs.Ytkbjlbcofooajaa
open Go.RowKit
attribute [local go_sem high] slB_lh slB_l slB_h nilB_eq

theorem bytes_1 (bs ms : List UInt8) (h : bs.length ≤ 1000) : Cm.bytes (Cm.put bs.length ++ (bs ++ ms)) (bs.length : Int) = (bs, Cm.size bs.length + bs.length, 0) := by
  have hb : Cm.bounded (Cm.put bs.length ++ (bs ++ ms)) (bs.length : Int).toNat = (bs.length, Cm.size bs.length, 0) := by
    unfold Cm.bounded
    rw [Cm.get_put _ (by omega), if_neg (by simp), if_neg (by dsimp only; omega)]
  have hl := Cm.put_length bs.length
  unfold Cm.bytes
  rw [hb, if_neg (by simp), if_neg (by omega), if_neg (by simp only [List.length_append]; omega)]
  simp only [Prod.mk.injEq, and_true]
  rw [List.drop_append_of_le_length (by omega), List.drop_of_length_le (by omega), List.nil_append, List.take_append_of_le_length (by omega), List.take_of_length_le (by omega)]
theorem bytes_2 (bs ms : List UInt8) (h : bs.length ≤ 1000) : Cm.bytes (Cm.put bs.length ++ (bs ++ ms)) ((bs.length : Int) - 1) = ([], 0, 3) := by
  unfold Cm.bytes
  by_cases h0 : bs.length = 0
  · have hb : Cm.bounded (Cm.put bs.length ++ (bs ++ ms)) ((bs.length : Int) - 1).toNat = (bs.length, Cm.size bs.length, 0) := by
      unfold Cm.bounded
      rw [Cm.get_put _ (by omega), if_neg (by simp), if_neg (by dsimp only; omega)]
    rw [hb, if_neg (by simp), if_pos (by omega)]
  · have hb : Cm.bounded (Cm.put bs.length ++ (bs ++ ms)) ((bs.length : Int) - 1).toNat = (0, 0, 3) := by
      unfold Cm.bounded
      rw [Cm.get_put _ (by omega), if_neg (by simp), if_pos (by dsimp only; omega)]
    rw [hb, if_pos (by simp)]
theorem bytes_3 (bs ms : List UInt8) (h : bs.length ≤ 1000) : Cm.bytes ((Cm.put bs.length ++ (bs ++ ms)).take (Cm.size bs.length + bs.length - 1)) (bs.length : Int) = ([], 0, 1) := by
  have hl := Cm.put_length bs.length
  have hs := Cm.size_le bs.length
  by_cases h0 : bs.length = 0
  · have hs1 : Cm.size bs.length = 1 := by rw [h0]; rfl
    rw [hs1, h0]
    rfl
  · have e : (Cm.put bs.length ++ (bs ++ ms)).take (Cm.size bs.length + bs.length - 1) = Cm.put bs.length ++ bs.take (bs.length - 1) := by
      rw [show Cm.size bs.length + bs.length - 1 = (Cm.put bs.length).length + (bs.length - 1) from by omega, List.take_length_add_append, List.take_append_of_le_length (by omega)]
    rw [e]
    have hb : Cm.bounded (Cm.put bs.length ++ bs.take (bs.length - 1)) (bs.length : Int).toNat = (bs.length, Cm.size bs.length, 0) := by
      unfold Cm.bounded
      rw [Cm.get_put _ (by omega), if_neg (by simp), if_neg (by dsimp only; omega)]
    unfold Cm.bytes
    rw [hb, if_neg (by simp), if_neg (by omega), if_pos (by simp only [List.length_append, List.length_take]; omega)]

set_option maxRecDepth 20000 in
set_option maxHeartbeats 2000000 in
theorem bytes_walk (bs ms : List UInt8) (A : Option Addr) (l c : Nat) (A' : Option Addr) (l' c' : Nat) (w : World) (hr : Rd w A (bs.map bv)) (hn : bs.length = l) (hm : (l : Int) ≤ 1000) (hr' : Rd w A' (ms.map bv)) (hn' : ms.length = l') (hm' : (l' : Int) ≤ 1000)
    (O : List UInt8) (hO : Cm.put l = O) (S : Nat) (hS : Cm.size l = S) (N : Nat) (hN : S + l + l' = N) :
    Calls Try.prog 7 #[.slice A l c, .slice A' l' c'] w fun e w' => e = .returned (.bool true) ∧ Below w.heap.size w w' := by
  have hlen : O.length = S := by rw [← hO, ← hS, Cm.put_length]
  have hS9 : S ≤ 9 ∧ 1 ≤ S := by have := Cm.size_le l; omega
  have HP := Lib.hid (fun w => compact_Put [] none 0 0 (l : Int) (by omega) O (by rw [Int.toNat_natCast, hO]; rfl) w (Rd.nil w none) rfl (by omega))
  have hWl : (O ++ (bs ++ ms)).length = N := by simp only [List.length_append]; omega
  have b1 := bytes_1 bs ms (by omega)
  have b2 := bytes_2 bs ms (by omega)
  have b3 := bytes_3 bs ms (by omega)
  rw [hn, hO, hS] at b1 b3
  rw [hn, hO] at b2
  have hN9 : (N : Int) ≤ 3000 ∧ S + l ≤ N := by omega
  have H1 := Lib.hid (fun (A : Option Addr) (c : Nat) (hc : N ≤ c) (w : World) (hr : Rd w A ((O ++ (bs ++ ms)).map bv)) => compact_Bytes (O ++ (bs ++ ms)) (l : Int) (by omega) (by omega) bs (S + l) 0 b1 A N c w hr hWl hc (by omega))
  have H2 := Lib.hid (fun (A : Option Addr) (c : Nat) (hc : N ≤ c) (w : World) (hr : Rd w A ((O ++ (bs ++ ms)).map bv)) => compact_Bytes (O ++ (bs ++ ms)) ((l : Int) - 1) (by omega) (by omega) [] 0 3 b2 A N c w hr hWl hc (by omega))
  have H3 := Lib.hid (fun (A : Option Addr) (c : Nat) (hc : S + l - 1 ≤ c) (w : World) (hr : Rd w A ((O ++ (bs ++ ms)).map bv)) => compact_Bytes ((O ++ (bs ++ ms)).take (S + l - 1)) (l : Int) (by omega) (by omega) [] 0 1 b3 A (S + l - 1) c w (by rw [List.map_take]; exact hr.take _) (by rw [List.length_take]; omega) hc (by omega))
  have Hl := Lib.hid hlen
  have Hn := Lib.hid hn
  have Hn' := Lib.hid hn'
  have HN := Lib.hid hN
  have hol : O.length ≤ 9 := by omega
  have hbl : bs.length ≤ 1000 := by omega
  have i1 : ¬ (1000 : Int) < (l : Int) := by omega
  have i2 : ¬ (1000 : Int) < (l' : Int) := by omega
  clear hO hS hlen hn hn' hN hWl b1 b2 b3
  go_enter Try.func7, Try.ntmps7
  go_wp2_with (go_at_call 8; refine (law_awake _).mono ?_; rintro e w1 ⟨rfl, hb1⟩; have hr1 := hr.below hb1; have hr1' := hr'.below hb1)
  refine (HP.out _).mono ?_
  rintro e w2 ⟨v, rfl, ho, hb2⟩
  obtain ⟨Ap, cp, rfl, hcp, hcp2⟩ := ho.formN S Hl.out
  have hr2 := hr1.below hb2
  have hr2' := hr1'.below hb2
  go_wp2_with (first
    | (at_builtin; refine wpList_appB ho hb2 hb2.size l c hr2 Hn.out (by omega) rfl (.tmp 36) (.tmp 37) rfl rfl rfl ?_; intro v3 w3 ho3 hb3 hz3 hg3; have hr3' := hr1'.below hb3)
    | (at_builtin; refine wpList_appB ho3 hb3 hb3.size l' c' hr3' Hn'.out (by simp only [List.length_append]; omega) rfl (.tmp 39) (.tmp 40) rfl rfl rfl ?_; intro v4 w4 ho4 hb4 hz4 hg4; rw [List.append_assoc] at ho4; obtain ⟨A4, c4, rfl, hc4, hc5⟩ := ho4.formN N (by have := Hl.out; have := Hn.out; have := Hn'.out; have := HN.out; simp only [List.length_append]; omega)))
  refine (H1.out A4 c4 hc4 _ ho4.rd).mono ?_
  rintro e w5 ⟨v5, rfl, ho5, hb5⟩
  obtain ⟨A5, c5, rfl, _, _⟩ := ho5.formN l Hn.out
  have hr5 := ho4.rd.below hb5
  go_wp2_with fail
  refine (H2.out A4 c4 hc4 _ hr5).mono ?_
  rintro e w6 ⟨v6, rfl, ho6, hb6⟩
  obtain ⟨A6, c6, rfl, _, _⟩ := ho6.formN 0 rfl
  have hr6 := hr5.below hb6
  have s1 : (0 : Int) ≤ (S : Int) + (l : Int) - 1 := by omega
  have s2 : (S : Int) + (l : Int) - 1 ≤ (N : Int) := by omega
  have s3 : (S : Int) + (l : Int) - 1 ≤ (c4 : Int) := by omega
  go_wp2_with (first
    | refine wpList_min (.tmp 62) (.tmp 64) _ ((S : Int) + l - 1) (by omega) rfl rfl rfl rfl ?_
    | refine wpList_max _ (.tmp 65) _ ((S : Int) + l - 1) (by omega) rfl rfl rfl rfl ?_)
  refine (H3.out A4 c4 (by omega) _ hr6).mono ?_
  rintro e w7 ⟨v7, rfl, ho7, hb7⟩
  obtain ⟨A7, c7, rfl, _, _⟩ := ho7.formN 0 rfl
  have hrx := (ho5.rd.below hb6).below hb7
  have hrb := (((hr1.below hb4).below hb5).below hb6).below hb7
  have hcv1 := conv_str hrx Hn.out
  have hcv2 := conv_str hrb Hn.out
  go_wp2
  go_ret
  have z1 := hb1.size
  have z2 := hb4.size
  have z3 := hb5.size
  have z4 := hb6.size
  exact ⟨rfl, (((hb1.trans (hb4.mono z1)).trans (hb5.mono (by omega))).trans (hb6.mono (by omega))).trans (hb7.mono (by omega))⟩

set_option maxHeartbeats 400000 in
theorem bytes_long (A : Option Addr) (l c : Nat) (A' : Option Addr) (l' c' : Nat) (w : World) (hm : 1000 < (l : Int)) :
    Calls Try.prog 7 #[.slice A l c, .slice A' l' c'] w fun e w' => e = .returned (.bool true) ∧ Below w.heap.size w w' := by
  go_enter Try.func7, Try.ntmps7
  go_wp2_with (go_at_call 8; refine (law_awake _).mono ?_; rintro e w1 ⟨rfl, hb1⟩)
  go_ret
  exact ⟨rfl, hb1⟩
set_option maxHeartbeats 400000 in
theorem bytes_long' (A : Option Addr) (l c : Nat) (A' : Option Addr) (l' c' : Nat) (w : World) (h : ¬ 1000 < (l : Int)) (hm : 1000 < (l' : Int)) :
    Calls Try.prog 7 #[.slice A l c, .slice A' l' c'] w fun e w' => e = .returned (.bool true) ∧ Below w.heap.size w w' := by
  go_enter Try.func7, Try.ntmps7
  go_wp2_with (go_at_call 8; refine (law_awake _).mono ?_; rintro e w1 ⟨rfl, hb1⟩)
  go_ret
  exact ⟨rfl, hb1⟩
theorem law_Bytes (bs : List UInt8) (A : Option Addr) (l c : Nat) (ms : List UInt8) (A' : Option Addr) (l' c' : Nat) (w : World) (hr : Rd w A (bs.map bv)) (hn : bs.length = l) (_hc : l ≤ c) (hr' : Rd w A' (ms.map bv)) (hn' : ms.length = l') (_hc' : l' ≤ c') :
    Calls Try.prog 7 #[.slice A l c, .slice A' l' c'] w fun e w' => e = .returned (.bool true) ∧ Below w.heap.size w w' := by
  by_cases hm : (l : Int) ≤ 1000
  · by_cases hm' : (l' : Int) ≤ 1000
    · exact bytes_walk bs ms A l c A' l' c' w hr hn hm hr' hn' hm' _ rfl _ rfl _ rfl
    · exact bytes_long' A l c A' l' c' w (by omega) (by omega)
  · exact bytes_long A l c A' l' c' w (by omega)
end Go.Proofs.Ytkbjlbcofooajaa
