/- Which bytes are a folder: the walk of the program's Take. -/
import Derived.Test.YtmcankeggbofhaaIp
namespace Go.Proofs.Ytmcankeggbofhaa.Tk
open Go.RowKit Go.Proofs.YtmcankeggbofhaaW.PrintWords Go.Proofs.YtmcankeggbofhaaW.PrintMore
open It Nm Ag My Spc By Im Iw Ip OctC OctD
set_option linter.unusedVariables false
set_option linter.unusedSimpArgs false
set_option maxRecDepth 100000
def parseN : Nat → List Int → Option (List Itm × List Int)
  | 0, b => some ([], b)
  | n + 1, b => match parse b with
    | none => none
    | some (x, r) => (parseN n r).map fun p => (x :: p.1, p.2)
/-- the items so far, what is left, against the whole -/
def Upto (n : Nat) (b0 : List Int) (j : Nat) (acc : List Itm) (b : List Int) : Prop := acc.length = j ∧ j ≤ n ∧ parseN n b0 = (parseN (n - j) b).map (fun p => (acc ++ p.1, p.2)) ∧ (∀ x ∈ acc, Ok x ∧ 0 ≤ x.size ∧ x.size ≤ 9223372036854775807 ∧ x.name.size ≤ 65536)
theorem upto_none {n : Nat} {b0 : List Int} {j : Nat} {acc : List Itm} {b : List Int} (h : Upto n b0 j acc b) (hj : j < n) (hp : parse b = none) : parseN n b0 = none := by
  rw [h.2.2.1, show n - j = (n - j - 1) + 1 by omega, parseN, hp]
  rfl
theorem upto_some {n : Nat} {b0 : List Int} {j : Nat} {acc : List Itm} {b : List Int} (h : Upto n b0 j acc b) (hj : j < n) (hby : ∀ x ∈ b, 0 ≤ x ∧ x < 256) {x : Itm} {r : List Int} (hp : parse b = some (x, r)) : Upto n b0 (j + 1) (acc ++ [x]) r := by
  have hk := parse_ok b hby x r hp
  refine ⟨by rw [List.length_append, h.1]; rfl, by omega, ?_, ?_⟩
  · rw [h.2.2.1, show n - j = (n - (j + 1)) + 1 by omega, parseN, hp]
    simp only [Option.map_map]
    congr 1
    funext p
    simp
  · intro y hy
    rcases List.mem_append.1 hy with h1 | h1
    · exact h.2.2.2 y h1
    · rw [List.mem_singleton.1 h1]; exact ⟨hk.1, hk.2.1, hk.2.2.1, hk.2.2.2.2.2⟩
theorem upto_end {n : Nat} {b0 : List Int} {acc : List Itm} {b : List Int} (h : Upto n b0 n acc b) : parseN n b0 = some (acc, b) := by
  rw [h.2.2.1, Nat.sub_self]
  simp [parseN]
def takeOut (b : List Int) : Option (List Itm) :=
  if 4000 < b.length then none else if Lib.hasPrefix (strOfNums b).data.toList [68, 49] = false then none else
  let n := OctC.take 0 0 (b.drop 2)
  if n.2.2 ≠ 0 ∨ 64 < n.1 then none else
  match parseN n.1.toNat ((b.drop 2).drop n.2.1.toNat) with
  | none => none
  | some (l, r) => if 0 < r.length ∨ mayL l = false then none else some l
theorem pre_len {b : List Int} (h : Lib.hasPrefix (strOfNums b).data.toList [68, 49] = true) : 2 ≤ b.length := by
  have h1 : ([68, 49] : List UInt8).isPrefixOf (strOfNums b).data.toList = true := h
  have h2 := (List.isPrefixOf_iff_prefix.1 h1).length_le
  have h3 : (strOfNums b).data.toList.length = b.length := by have := strOfNums_size b; simpa using this
  rw [h3] at h2
  exact h2
theorem take_long (A : Option Addr) (c : Nat) (b : List Int) (w : World) (hr : CB w A b) (hc : b.length ≤ c) (hl : 4000 < b.length) :
    Calls Try.prog 20 #[.slice A b.length c] w fun e w' => e = .returned (.tuple #[.slice none 0 0, .int .i64 4]) ∧ Below w.heap.size w w' := by
  have d1 : decide (4000 < (b.length : Int)) = true := decide_eq_true (by omega)
  clear hr
  go_enter Try.func20, Try.ntmps20
  go_wp2_with fail
  go_ret2
  exact ⟨rfl, Below.refl _ _⟩
theorem take_other (A : Option Addr) (c : Nat) (b : List Int) (w : World) (hr : CB w A b) (hc : b.length ≤ c) (hl : b.length ≤ 4000) (hp : Lib.hasPrefix (strOfNums b).data.toList [68, 49] = false) :
    Calls Try.prog 20 #[.slice A b.length c] w fun e w' => e = .returned (.tuple #[.slice none 0 0, .int .i64 4]) ∧ Below w.heap.size w w' := by
  have d1 : decide (4000 < (b.length : Int)) = false := decide_eq_false (by omega)
  have hcv := Kd.C_string (P := Try.prog) (c := c) Try.underlying33 Try.underlying5 Try.underlying9 hr
  have HP := Aside0.mk (fun w => (Try.strings_HasPrefix (strOfNums b) ⟨#[68, 49]⟩ w))
  rw [show Lib.hasPrefix (strOfNums b).data.toList (⟨#[68, 49]⟩ : ByteArray).data.toList = false from hp] at HP
  clear hr hp
  go_enter Try.func20, Try.ntmps20
  go_wp2_with (go_at_call 32; refine (HP.out _).mono ?_; rintro e w' ⟨rfl, rfl⟩)
  go_ret2
  exact ⟨rfl, Below.refl _ _⟩
end Go.Proofs.Ytmcankeggbofhaa.Tk
