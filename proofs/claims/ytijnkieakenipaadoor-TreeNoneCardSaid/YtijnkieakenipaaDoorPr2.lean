/- Sl; Mid: put together for the claim. -/
import Derived.Test.YtijnkieakenipaaDoorApp
import Derived.Lib.SliceRun
import Derived.Test.YtijnkieakenipaaDoorShP
import Derived.Deep.MidRow
/- Slice expressions: the result under a name that the walk does not open. -/
namespace Go.Proofs.YtijnkieakenipaaDoor
open Go.RowKit

/-- where 'b[lo:..]' begins (s: cells an element; c: the capacity) -/
def subA (A : Option Addr) (c lo s : Nat) : Option Addr := if c = lo then A else A.map (·.add (lo * s))

theorem Rd.sub {w : World} {A : Option Addr} {xs : List Value} (h : Rd w A xs) (c lo s : Nat) (hc : xs.length ≤ c * s) : Rd w (subA A c lo s) (xs.drop (lo * s)) := by
  unfold subA
  split
  · rename_i e
    subst e
    rw [List.drop_of_length_le hc]
    exact Rd.nil w A
  · rcases h with h | ⟨b, off, rfl, hcell⟩
    · subst h
      rw [List.drop_nil]
      exact Rd.nil w _
    · have : (Option.map (fun x : Addr => x.add (lo * s)) (some ⟨b, off, none⟩)) = some ⟨b, off + lo * s, none⟩ := by
        rw [Option.map_some, addr_add]
      rw [this]
      exact Rd.drop (.inr ⟨b, off, rfl, hcell⟩) _

section
variable {P : Program} (w : World) (t e : TypeId) (A : Option Addr) (n c s : Nat)
theorem run_slice_lh_sub (ht : P.underlying t = some (.slice e)) (hs : (P.info? e).map (·.size) = some s) (kl kh : IntKind) (l h : Int) (h0 : 0 ≤ l) (h1 : l ≤ h) (h2 : h ≤ c) :
    (Instr.slice t (.slice A n c) (some (.int kl l)) (some (.int kh h)) none).run P w = .ok (.slice (subA A c l.toNat s) (h.toNat - l.toNat) (c - l.toNat)) w := by
  obtain ⟨i, hi, rfl⟩ := Option.map_eq_some_iff.1 hs
  have hel : P.elem t = e := by simp [Program.elem, ht]
  rw [run_slice_lh (P := P) w t A n c (by rw [hel]; exact ht) kl kh l h h0 h1 h2, hel]
  simp [sizeOf, typeInfo, hi, sliced, subA]
theorem run_slice_l_sub (ht : P.underlying t = some (.slice e)) (hs : (P.info? e).map (·.size) = some s) (kl : IntKind) (l : Int) (h0 : 0 ≤ l) (h1 : l ≤ n) :
    (Instr.slice t (.slice A n c) (some (.int kl l)) none none).run P w = .ok (.slice (subA A c l.toNat s) (n - l.toNat) (c - l.toNat)) w := by
  obtain ⟨i, hi, rfl⟩ := Option.map_eq_some_iff.1 hs
  have hel : P.elem t = e := by simp [Program.elem, ht]
  rw [run_slice_l (P := P) w t A n c (by rw [hel]; exact ht) kl l h0 h1, hel]
  simp [sizeOf, typeInfo, hi, sliced, subA]
theorem run_slice_h_sub (ht : P.underlying t = some (.slice e)) (hs : (P.info? e).map (·.size) = some s) (kh : IntKind) (h : Int) (h0 : 0 ≤ h) (h2 : h ≤ c) :
    (Instr.slice t (.slice A n c) none (some (.int kh h)) none).run P w = .ok (.slice A h.toNat c) w := by
  obtain ⟨i, hi, rfl⟩ := Option.map_eq_some_iff.1 hs
  have hel : P.elem t = e := by simp [Program.elem, ht]
  rw [run_slice_h (P := P) w t A n c (by rw [hel]; exact ht) kh h h0 h2, hel]
  have hA : Option.map (fun x : Addr => x.add 0) A = A := by cases A <;> simp [Addr.add]
  simp [sizeOf, typeInfo, hi, sliced, hA]
end

theorem size_u8 : (Tryd.prog.info? 5).map (·.size) = some 1 := by kernel_rfl
section
variable (w : World) (A : Option Addr) (n c : Nat)
theorem slB_lh (kl kh : IntKind) (l h : Int) (h0 : 0 ≤ l) (h1 : l ≤ h) (h2 : h ≤ c) :
    (Instr.slice 67 (.slice A n c) (some (.int kl l)) (some (.int kh h)) none).run Tryd.prog w = .ok (.slice (subA A c l.toNat 1) (h.toNat - l.toNat) (c - l.toNat)) w :=
  run_slice_lh_sub w _ _ A n c 1 Tryd.underlying67 size_u8 kl kh l h h0 h1 h2
theorem slB_l (kl : IntKind) (l : Int) (h0 : 0 ≤ l) (h1 : l ≤ n) :
    (Instr.slice 67 (.slice A n c) (some (.int kl l)) none none).run Tryd.prog w = .ok (.slice (subA A c l.toNat 1) (n - l.toNat) (c - l.toNat)) w :=
  run_slice_l_sub w _ _ A n c 1 Tryd.underlying67 size_u8 kl l h0 h1
theorem slB_h (kh : IntKind) (h : Int) (h0 : 0 ≤ h) (h2 : h ≤ c) :
    (Instr.slice 67 (.slice A n c) none (some (.int kh h)) none).run Tryd.prog w = .ok (.slice A h.toNat c) w :=
  run_slice_h_sub w _ _ A n c 1 Tryd.underlying67 size_u8 kh h h0 h2
/-- a slice of bytes against nil -/
theorem nilB_eq (n' c' : Nat) : (binOp .eql 67 (.slice A n c) (.slice none n' c')).run Tryd.prog w = .ok (.bool A.isNone) w :=
  Lib.run_eql_slice_nil w _ _ A n c n' c' Tryd.underlying67
end

theorem strOf_bytes (bs : List UInt8) : strOfNums (bs.map fun b => (b.toNat : Int)) = ⟨bs.toArray⟩ := by
  unfold strOfNums
  congr 1
  simp only [List.map_map]
  congr 1
  conv => rhs; rw [← List.map_id bs]
  refine List.map_congr_left fun b _ => ?_
  simp
/-- 'string(b)' -/
theorem conv_str {w : World} {A : Option Addr} {bs : List UInt8} {n : Nat} (hr : Rd w A (bs.map bv)) (hn : bs.length = n) (c : Nat) :
    (convert 67 9 (.slice A n c)).run Tryd.prog w = .ok (.string ⟨bs.toArray⟩) w := by
  rw [run_convert_bytes_string w _ _ _ A n c Tryd.underlying67 Tryd.underlying5 Tryd.underlying9]
  cases A with
  | none =>
    have hb : bs = [] := by
      rcases hr with h | ⟨_, _, h, _⟩
      · simpa using h
      · cases h
    subst hb
    simp [Conv.bytesToString]
    rfl
  | some a =>
    have hl : (loadCells a n).run Tryd.prog w = .ok ((bs.map fun b => (b.toNat : Int)).map (Value.int .u8)).toArray w := by
      have h := run_loadCells_list (P := Tryd.prog) w a (bs.map bv) (fun j u hu => by
        rcases hr with h | ⟨b, off, hA, hc⟩
        · rw [h] at hu; simp at hu
        · cases hA
          rw [addr_add]
          exact hc j u hu)
      rw [List.length_map, hn] at h
      rw [h, List.map_map]
      rfl
    rw [run_bytesToString w a n c _ hl, foldl_push_bytes]
    have e := strOf_bytes bs
    unfold strOfNums at e
    rw [ByteArray.mk.injEq] at e
    rw [e]
    simp [ByteArray.empty, ByteArray.emptyWithCapacity]
    rfl
end Go.Proofs.YtijnkieakenipaaDoor
/- Parts of a struct in memory: a load and a store of some of its cells. -/
namespace Go.Proofs.YtijnkieakenipaaDoor
open Go.RowKit

end Go.Proofs.YtijnkieakenipaaDoor
