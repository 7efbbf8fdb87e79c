/- What came in, opened: slices of hashes. -/
import Derived.Test.YtngindljhlbglaaDoorHash
import Derived.WalkKit
import Derived.ProofKit
import Derived.OpenShut
import Derived.ChangeOld
import Derived.Deep.Slices
namespace Go.Proofs.YtngindljhlbglaaDoor
open Go.RowKit Go.ChangeShapes Go.WideShapes Go.ChangeAt

theorem mapM_each {α β : Type} {f : α → Option β} : ∀ {l : List α} {ys : List β}, l.mapM f = some ys → ∀ x ∈ l, ∃ y, f x = some y
  | [], _, _, x, hx => by cases hx
  | a :: l, ys, h, x, hx => by
    rw [List.mapM_cons] at h
    cases ha : f a with
    | none => rw [ha] at h; cases h
    | some y =>
      rw [ha] at h
      cases hl : l.mapM f with
      | none => rw [hl] at h; cases h
      | some zs =>
        rcases List.mem_cons.1 hx with rfl | hx
        · exact ⟨y, ha⟩
        · exact mapM_each hl x hx
section
variable {H : Type} {enc : TypeId × Value → H} {w : World} {base : Nat} {spare : Nat → Bool} {held : Bool}
theorem cells_u8 : Tryd.prog.cellsOf 5 = 1 := by kernel_rfl
theorem cells_h : Tryd.prog.cellsOf 25 = 32 := by kernel_rfl
theorem open_hash {fuel : Nat} {cs : List Value} {x : DataW H × List MemPlace} (h : DataW.trod enc Tryd.prog w base spare held fuel 25 cs = some x) : ∃ bs : List UInt8, bs.length = 32 ∧ cs = bs.map bv := by
  cases fuel with
  | zero => cases h
  | succ fuel =>
    unfold DataW.trod at h
    rw [Tryd.underlying25] at h
    dsimp only at h
    rw [cells_h, cells_u8] at h
    split at h
    · rename_i hlen
      have hm : ∃ ys, (List.range 32).mapM (fun i => DataW.trod enc Tryd.prog w base spare held fuel 5 ((cs.drop (i * 1)).take 1)) = some ys := by
        cases hq : (List.range 32).mapM (fun i => DataW.trod enc Tryd.prog w base spare held fuel 5 ((cs.drop (i * 1)).take 1)) with
        | none => rw [hq] at h; cases h
        | some ys => exact ⟨ys, rfl⟩
      obtain ⟨ys, hm⟩ := hm
      have each : ∀ i, i < 32 → ∃ n : Int, cs[i]? = some (.int .u8 n) ∧ (Lit.int .u8 n).wf = true := by
        intro i hi
        obtain ⟨y, hy⟩ := mapM_each hm i (List.mem_range.2 hi)
        obtain ⟨n, hn, _, hw⟩ := DataW.trod_int Tryd.underlying5 hy
        refine ⟨n, ?_, hw⟩
        have : (List.take 1 (cs.drop (i * 1)))[0]? = some (.int .u8 n) := by rw [hn]; rfl
        simpa using this
      refine ⟨cs.map fun v => match v with | .int _ n => UInt8.ofNat n.toNat | _ => 0, by rw [List.length_map, hlen], ?_⟩
      rw [List.map_map]
      refine List.ext_getElem? fun i => ?_
      rw [List.getElem?_map]
      by_cases hi : i < 32
      · obtain ⟨n, hn, hw⟩ := each i hi
        rw [hn]
        have hb : 0 ≤ n ∧ n ≤ 255 := by simpa [Lit.wf, IntKind.min, IntKind.max, IntKind.signed, IntKind.bits] using hw
        have e : ((UInt8.ofNat n.toNat).toNat : Int) = n := by
          have : (UInt8.ofNat n.toNat).toNat = n.toNat % 256 := UInt8.toNat_ofNat'
          rw [this]; omega
        show some (Value.int IntKind.u8 n) = some (Value.int IntKind.u8 ((UInt8.ofNat n.toNat).toNat : Int))
        rw [e]
      · rw [List.getElem?_eq_none (by omega)]
        rfl
    · cases h
/-- a slice of hashes that came in -/
theorem open_hashes {fuel : Nat} {A : Option Addr} {n c : Nat} {x : DataW H × List MemPlace} (h : DataW.trod enc Tryd.prog w base spare held fuel 22 [.slice A n c] = some x) :
    ∃ l : List (List UInt8), l.length = n ∧ All32 l ∧ n ≤ c ∧ c ≤ maxLen ∧ Rd w A (hcl l) := by
  rcases Go.Deep.open_slice Tryd.underlying22 h with ⟨hcs, _⟩ | ⟨a, len, cap, m, k, D, Pl, hcs, _, hl, hm, hmm, _, hx⟩
  · simp at hcs
    obtain ⟨rfl, rfl, rfl⟩ := hcs
    exact ⟨[], rfl, fun _ hx => (by cases hx), Nat.le_refl _, (by decide), Rd.nil _ _⟩
  · simp at hcs
    obtain ⟨rfl, rfl, rfl⟩ := hcs
    have hlm : n ≤ m := by rw [hmm]; split <;> omega
    rw [cells_h] at hx
    obtain ⟨f, hf⟩ := Go.Deep.choose_lt (α := List UInt8) (n := n) (p := fun i bs => bs.length = 32 ∧ w.cells? base (a.add (i * 32)) 32 = some (bs.map bv)) (fun i hi => by
      obtain ⟨cs', h1, h2⟩ := hx i (by omega)
      obtain ⟨bs, hb1, hb2⟩ := open_hash h2
      exact ⟨bs, hb1, by rw [h1, hb2]⟩)
    have hlen : ((List.range n).map f).length = n := by simp
    have h32 : All32 ((List.range n).map f) := fun y hy => by
      obtain ⟨i, hi, rfl⟩ := List.mem_map.1 hy
      exact (hf i (List.mem_range.1 hi)).1
    refine ⟨(List.range n).map f, hlen, h32, hl, hm, ?_⟩
    by_cases hn : n = 0
    · subst hn
      exact Rd.nil _ _
    · have hcell : ∀ i r, i < n → r < 32 → w.cell? ((a.add (i * 32)).add r) = ((f i).map bv)[r]? := fun i r hi hr => (World.cells?_some (hf i hi).2).2.2 r hr
      have hs : a.spot = none := by
        have h0 := hcell 0 0 (by omega) (by omega)
        have hl0 := (hf 0 (by omega)).1
        rw [List.getElem?_map, List.getElem?_eq_getElem (by omega)] at h0
        cases hsp : a.spot with
        | none => rfl
        | some s =>
          simp [World.cell?, Addr.add, hsp] at h0
          split at h0 <;> simp at h0
      have ha : a = ⟨a.block, a.off, none⟩ := by cases a; simp_all
      refine .inr ⟨a.block, a.off, by rw [← ha], fun j u hu => ?_⟩
      have hj : j < 32 * n := by
        have := (List.getElem?_eq_some_iff.1 hu).1
        rw [hcl_length h32, hlen] at this
        exact this
      have hg := hcl_get h32 (j / 32) (j % 32) (by rw [hlen]; omega) (by omega)
      rw [show 32 * (j / 32) + j % 32 = j by omega] at hg
      rw [hg] at hu
      have hgd : ((List.range n).map f).getD (j / 32) [] = f (j / 32) := by
        rw [List.getD_eq_getElem?_getD, List.getElem?_map, List.getElem?_range (by omega)]
        rfl
      rw [hgd] at hu
      have hcl := hcell (j / 32) (j % 32) (by omega) (by omega)
      rw [hu, ha, addr_add, addr_add] at hcl
      rw [← hcl]
      congr 2
      omega
end
end Go.Proofs.YtngindljhlbglaaDoor
