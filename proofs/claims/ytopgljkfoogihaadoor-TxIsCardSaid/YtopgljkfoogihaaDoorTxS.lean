/- tx.Sane. -/
import Derived.Test.YtopgljkfoogihaaDoorPr2
namespace Go.Proofs.YtopgljkfoogihaaDoor
open Go.RowKit

theorem inc_at {w : World} {e : TIn × Sl} (h : InAt w e) : (inc e)[32]? = some (.int .u32 (e.1.idx : Int)) ∧ (inc e)[33]? = some (slv e.1.scr.length e.2) ∧ (inc e)[34]? = some (.int .u32 (e.1.seq : Int)) := by
  have hl : (e.1.prev.map bv).length = 32 := by rw [List.length_map]; exact h.1.1
  refine ⟨?_, ?_, ?_⟩
  all_goals
    rw [inc, List.getElem?_append_right (by rw [hl]; omega), hl]
    rfl
theorem all_of {l : List Value} (h : ∀ u ∈ l, u.oneCell' = true) : l.all (·.oneCell') = true := List.all_eq_true.2 h
theorem info_in : (Tryd.prog.info? 58).map (·.size) = some 35 := by kernel_rfl
theorem info_out : (Tryd.prog.info? 61).map (·.size) = some 2 := by kernel_rfl
/-- what Sane asks of inputs and outputs, without their numbers -/
theorem txSane_iff (t : TTx) : txSane t = true ↔ (1 ≤ t.ins.length ∧ t.ins.length ≤ 1000 ∧ t.outs.length ≤ 1000) ∧ (∀ i ∈ t.ins, i.scr.length ≤ 10000) ∧ ∀ o ∈ t.outs, o.scr.length ≤ 10000 := by
  simp only [txSane, Bool.and_eq_true, decide_eq_true_eq, List.all_eq_true]
  constructor
  · rintro ⟨⟨⟨⟨a, b⟩, c⟩, d⟩, e⟩; exact ⟨⟨a, b, c⟩, d, e⟩
  · rintro ⟨⟨a, b, c⟩, d, e⟩; exact ⟨⟨⟨⟨a, b⟩, c⟩, d⟩, e⟩
theorem mem_take_succ {α : Type} {l : List α} {k : Nat} {e : α} (hk : l[k]? = some e) {x : α} (hx : x ∈ l.take (k + 1)) : x ∈ l.take k ∨ x = e := by
  rw [List.take_add_one, hk] at hx
  rcases List.mem_append.1 hx with h | h
  · exact .inl h
  · exact .inr (by simpa using h)

set_option maxRecDepth 10000 in
set_option maxHeartbeats 2000000 in
theorem TSane (ver lock : Nat) (l : List (TIn × Sl)) (m : List (TOut × Sl)) (A1 A2 : Option Addr) (n1 n2 c1 c2 : Nat) (hn1 : l.length = n1) (hn2 : m.length = n2) (w : World) (h1 : RdIns w A1 l) (h2 : RdOuts w A2 m) :
    Calls Tryd.prog 12 #[.agg #[.int .u32 (ver : Int), .slice A1 n1 c1, .slice A2 n2 c2, .int .u32 (lock : Int)]] w fun e w' => e = .returned (.bool (txSane (txOf ver l m lock))) ∧ Below w.heap.size w w' := by
  obtain ⟨b, hb⟩ : ∃ b, b = txSane (txOf ver l m lock) := ⟨_, rfl⟩
  have hsane := txSane_iff (txOf ver l m lock)
  simp only [txOf, List.length_map, hn1, hn2, List.forall_mem_map] at hsane
  rw [← hb]
  rw [show TTx.mk ver (l.map (·.1)) (m.map (·.1)) lock = txOf ver l m lock from rfl, ← hb] at hsane
  clear hb
  replace hn1 := Lib.hid hn1
  replace hn2 := Lib.hid hn2
  by_cases hnum : 1 ≤ n1 ∧ n1 ≤ 1000 ∧ n2 ≤ 1000
  · obtain ⟨q1, q2, q3⟩ := hnum
    have t1 : decide ((n1 : Int) < 1) = false := by simp; omega
    have t2 : decide ((1000 : Int) < (n1 : Int)) = false := by simp; omega
    have t3 : decide ((1000 : Int) < (n2 : Int)) = false := by simp; omega
    replace hsane := Lib.hid hsane
    go_enter Tryd.func12, Tryd.ntmps12
    go_wp2
    go_loopw [4, 26] (fun _ i wr => ∃ k : Nat, k ≤ n1 ∧ i = .int .i64 (k : Int) ∧ Hid (∀ e ∈ l.take k, e.1.scr.length ≤ 10000) ∧ Av wr w.heap.size 36 [.int .u32 (ver : Int), .slice A1 n1 c1, .slice A2 n2 c2, .int .u32 (lock : Int)] ∧ Below w.heap.size w wr) (fun _ i _ => n1 - (intOf i).toNat)
    case atStart => exact ⟨0, by omega, rfl, Lib.hid (by simp), heap_alloc_new _ _, (Below.refl _ _).alloc (Nat.le_refl _) _⟩
    case round =>
      obtain ⟨k, hk, rfl, hall, hav, hbw⟩ := hrel
      by_cases hlt : k < n1
      · have t4 : decide ((k : Int) < (n1 : Int)) = true := by simp; omega
        obtain ⟨e, he⟩ : ∃ e, l[k]? = some e := ⟨_, List.getElem?_eq_getElem (by rw [hn1.out]; exact hlt)⟩
        obtain ⟨b1, off, rfl⟩ := h1.adr (by rw [hn1.out]; omega)
        obtain ⟨hrng, hin⟩ := (h1.below hbw).nth k e he
        obtain ⟨i32, i33, i34⟩ := inc_at hin
        have hcl := inc_length hin
        have hone := all_of (inc_one e)
        obtain ⟨q, hq⟩ : ∃ q, e.1.scr.length = q := ⟨_, rfl⟩
        rw [hq] at i33
        obtain ⟨cs, hcs⟩ : ∃ cs, cs = inc e := ⟨_, rfl⟩
        rw [← hcs] at hrng hcl hone i33
        have m0 : 0 ≤ (k : Int) := by omega
        have m1 : (k : Int) < (n1 : Int) := by omega
        replace i33 := Lib.hid i33
        replace he := Lib.hid he
        replace hq := Lib.hid hq
        clear i32 i34 hcs hin
        by_cases hq1 : q ≤ 10000
        · have t5 : decide ((10000 : Int) < (q : Int)) = false := by simp; omega
          go_wp2_with (first
            | refine wpList_load_mid rfl _ _ rfl b1 (off + k * 35) rfl cs _ hrng Tryd.underlying58 rfl (by rw [hcl]; exact info_in) ?_
            | (refine wpList_storeAv (hbw.alloc hbw.size _) (heap_alloc_new _ _) hbw.size rfl _ _ _ rfl rfl cs rfl 35 hcl (by kernel_rfl) rfl hone ?_
               intro w3 a3 b3 k3 z3
               have cq := a3.cell 33 _ i33.out))
          refine ⟨⟨k + 1, by omega, by go_num, Lib.hid ?_, ?_, b3⟩, ?_⟩
          · intro e' he'
            rcases mem_take_succ he.out he' with h | rfl
            · exact hall.out e' h
            · rw [hq.out]; exact hq1
          · exact (hav.alloc _).same (k3 w.heap.size (by have := hav.lt; omega))
          · simp [intOf]; omega
        · have t5 : decide ((10000 : Int) < (q : Int)) = true := by simp; omega
          go_wp2_with (first
            | refine wpList_load_mid rfl _ _ rfl b1 (off + k * 35) rfl cs _ hrng Tryd.underlying58 rfl (by rw [hcl]; exact info_in) ?_
            | (refine wpList_storeAv (hbw.alloc hbw.size _) (heap_alloc_new _ _) hbw.size rfl _ _ _ rfl rfl cs rfl 35 hcl (by kernel_rfl) rfl hone ?_
               intro w3 a3 b3 k3 z3
               have cq := a3.cell 33 _ i33.out))
          go_ret
          refine ⟨?_, b3⟩
          have : b = false := by
            cases b
            · rfl
            · have := (hsane.out.1 rfl).2.1 e (List.mem_of_getElem? he.out)
              rw [hq.out] at this
              exact absurd this hq1
          rw [this]; rfl
      · obtain rfl : k = n1 := by omega
        have t4 : decide ((k : Int) < (k : Int)) = false := by simp
        have hc := hav.cell 2 _ rfl
        go_wp2
        go_loopw [6, 38] (fun _ i wr => ∃ k : Nat, k ≤ n2 ∧ i = .int .i64 (k : Int) ∧ Hid (∀ e ∈ m.take k, e.1.scr.length ≤ 10000) ∧ Below w.heap.size w wr) (fun _ i _ => n2 - (intOf i).toNat)
        case atStart => exact ⟨0, by omega, rfl, Lib.hid (by simp), hbw⟩
        case round =>
          clear hc hav hbw
          obtain ⟨j, hj, rfl, hall2, hbw⟩ := hrel
          by_cases hlt2 : j < n2
          · have t4 : decide ((j : Int) < (n2 : Int)) = true := by simp; omega
            obtain ⟨e, he⟩ : ∃ e, m[j]? = some e := ⟨_, List.getElem?_eq_getElem (by rw [hn2.out]; exact hlt2)⟩
            obtain ⟨b1, off, rfl⟩ := h2.adr (by rw [hn2.out]; omega)
            obtain ⟨hrng, hin⟩ := (h2.below hbw).nth j e he
            have hone := all_of (outc_one e)
            obtain ⟨q, hq⟩ : ∃ q, e.1.scr.length = q := ⟨_, rfl⟩
            have i33 : (outc e)[1]? = some (slv q e.2) := by rw [← hq]; rfl
            have hcl := outc_length e
            obtain ⟨cs, hcs⟩ : ∃ cs, cs = outc e := ⟨_, rfl⟩
            rw [← hcs] at hrng hone i33 hcl
            have m0 : 0 ≤ (j : Int) := by omega
            have m1 : (j : Int) < (n2 : Int) := by omega
            replace i33 := Lib.hid i33
            replace he := Lib.hid he
            replace hq := Lib.hid hq
            clear hcs hin
            by_cases hq1 : q ≤ 10000
            · have t5 : decide ((10000 : Int) < (q : Int)) = false := by simp; omega
              go_wp2_with (first
                | refine wpList_load_mid rfl _ _ rfl b1 (off + j * 2) rfl cs _ hrng Tryd.underlying61 rfl (by rw [hcl]; exact info_out) ?_
                | (refine wpList_storeAv (hbw.alloc hbw.size _) (heap_alloc_new _ _) hbw.size rfl _ _ _ rfl rfl cs rfl 2 hcl (by kernel_rfl) rfl hone ?_
                   intro w3 a3 b3 k3 z3
                   have cq := a3.cell 1 _ i33.out))
              refine ⟨⟨j + 1, by omega, by go_num, Lib.hid ?_, b3⟩, ?_⟩
              · intro e' he'
                rcases mem_take_succ he.out he' with h | rfl
                · exact hall2.out e' h
                · rw [hq.out]; exact hq1
              · simp [intOf]; omega
            · have t5 : decide ((10000 : Int) < (q : Int)) = true := by simp; omega
              go_wp2_with (first
                | refine wpList_load_mid rfl _ _ rfl b1 (off + j * 2) rfl cs _ hrng Tryd.underlying61 rfl (by rw [hcl]; exact info_out) ?_
                | (refine wpList_storeAv (hbw.alloc hbw.size _) (heap_alloc_new _ _) hbw.size rfl _ _ _ rfl rfl cs rfl 2 hcl (by kernel_rfl) rfl hone ?_
                   intro w3 a3 b3 k3 z3
                   have cq := a3.cell 1 _ i33.out))
              go_ret
              refine ⟨?_, b3⟩
              have : b = false := by
                cases b
                · rfl
                · have := (hsane.out.1 rfl).2.2 e (List.mem_of_getElem? he.out)
                  rw [hq.out] at this
                  exact absurd this hq1
              rw [this]; rfl
          · obtain rfl : j = n2 := by omega
            have t4 : decide ((j : Int) < (j : Int)) = false := by simp
            go_wp2
            go_ret
            refine ⟨?_, hbw⟩
            have : b = true := by
              refine hsane.out.2 ⟨⟨q1, q2, q3⟩, fun e he => hall.out e ?_, fun e he => hall2.out e ?_⟩
              · rw [List.take_of_length_le (by rw [hn1.out]; omega)]; exact he
              · rw [List.take_of_length_le (by rw [hn2.out]; omega)]; exact he
            rw [this]; rfl
  · have : b = false := by
      cases b
      · rfl
      · exact absurd (hsane.1 rfl).1 hnum
    subst this
    clear hsane h1 h2
    by_cases q1 : n1 < 1
    · have t1 : decide ((n1 : Int) < 1) = true := by simp; omega
      go_enter Tryd.func12, Tryd.ntmps12
      go_wp2
      go_ret
      exact ⟨rfl, (Below.refl _ _).alloc (Nat.le_refl _) _⟩
    · have t1 : decide ((n1 : Int) < 1) = false := by simp; omega
      by_cases q2 : 1000 < n1
      · have t2 : decide ((1000 : Int) < (n1 : Int)) = true := by simp; omega
        go_enter Tryd.func12, Tryd.ntmps12
        go_wp2
        go_ret
        exact ⟨rfl, (Below.refl _ _).alloc (Nat.le_refl _) _⟩
      · have t2 : decide ((1000 : Int) < (n1 : Int)) = false := by simp; omega
        have t3 : decide ((1000 : Int) < (n2 : Int)) = true := by simp; omega
        go_enter Tryd.func12, Tryd.ntmps12
        go_wp2
        go_ret
        exact ⟨rfl, (Below.refl _ _).alloc (Nat.le_refl _) _⟩
end Go.Proofs.YtopgljkfoogihaaDoor
