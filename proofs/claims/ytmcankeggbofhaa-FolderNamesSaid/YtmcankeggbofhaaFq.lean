/- A folder's bytes, in plain lists: what is written is parsed. -/
import Derived.Test.YtmcankeggbofhaaFp
namespace Go.Proofs.Ytmcankeggbofhaa.Fq
open Go.RowKit Go.Proofs.YtmcankeggbofhaaW.PrintWords Go.Proofs.YtmcankeggbofhaaW.PrintMore
open It Nm Ag My Spc By Im Iw Ip Tk Tg OctC OctD Fp
set_option linter.unusedVariables false
set_option linter.unusedSimpArgs false
theorem parse_item (x : Itm) (hok : Ok x) (hi : okItem x = true) (hz : x.size ≤ 9223372036854775807) (r : List Int) : parse (itemB x ++ r) = some (x, r) := by
  obtain ⟨h1, h2, h3, h4, _⟩ := ok_item hi
  have hbl : (bytesOf x.name).length = x.name.size := bytesOf_length _
  have ht := takeT_text (bytesOf x.name) (x.of ++ (leb x.size.toNat ++ r)) (by omega)
  rw [hbl] at ht
  have hk := take_leb x.size.toNat 0 0 r (by simp; omega) (.inl rfl)
  simp only [Nat.pow_zero, Nat.mul_one, Nat.zero_add] at hk
  have e : itemB x ++ r = x.kind :: (leb x.name.size ++ bytesOf x.name ++ (x.of ++ (leb x.size.toNat ++ r))) := by simp [itemB]
  rw [e]
  simp only [parse, ht]
  rw [if_neg (by simp)]
  have hd : (leb x.name.size ++ bytesOf x.name ++ (x.of ++ (leb x.size.toNat ++ r))).drop (((leb x.name.size).length + x.name.size : Nat) : Int).toNat = x.of ++ (leb x.size.toNat ++ r) := by
    rw [Int.toNat_natCast, ← hbl, ← List.length_append, List.drop_left]
  rw [hd]
  unfold Ok at hok
  rw [if_neg (by simp [hok])]
  have hd2 : (x.of ++ (leb x.size.toNat ++ r)).drop 32 = leb x.size.toNat ++ r := by rw [← hok, List.drop_left]
  have ht2 : (x.of ++ (leb x.size.toNat ++ r)).take 32 = x.of := by rw [← hok, List.take_left]
  rw [hd2, ht2, hk]
  simp only
  rw [if_neg (by rintro (h | h); exact h rfl; omega)]
  have hn : ((x.size.toNat : Nat) : Int) = x.size := Int.toNat_of_nonneg h3
  rw [Int.toNat_natCast, List.drop_left, hn, str_bytesOf]
theorem parseN_items : ∀ (l : List Itm) (r : List Int), (∀ x ∈ l, Ok x ∧ okItem x = true ∧ x.size ≤ 9223372036854775807) → parseN l.length (l.flatMap itemB ++ r) = some (l, r)
  | [], r, _ => rfl
  | x :: l, r, h => by
    have hx := h x (by simp)
    rw [List.flatMap_cons, List.append_assoc, List.length_cons, parseN, parse_item x hx.1 hx.2.1 hx.2.2]
    simp only
    rw [parseN_items l r (fun y hy => h y (by simp [hy]))]
    rfl
theorem may_items {l : List Itm} (h : mayL l = true) (ho : okI l) : ∀ x ∈ l, Ok x ∧ okItem x = true ∧ x.size ≤ 9223372036854775807 := by
  intro x hx
  obtain ⟨i, hi, rfl⟩ := List.mem_iff_getElem.1 hx
  have := step_item ((may_all h).2 i hi)
  rw [at_get l i hi] at this
  exact ⟨(ho _ hx).1, this, (ho _ hx).2⟩
def bytI (l : List Itm) : Prop := ∀ x ∈ l, ∀ y ∈ x.of, 0 ≤ y ∧ y < 256
theorem foldB_byte {l : List Itm} (h : mayL l = true) (ho : okI l) (hb : bytI l) : ∀ y ∈ foldB l, 0 ≤ y ∧ y < 256 := by
  intro y hy
  unfold foldB foldTo at hy
  rw [List.take_length] at hy
  simp only [List.mem_append, List.mem_cons, List.not_mem_nil, or_false, List.mem_flatMap] at hy
  rcases hy with (h1 | h1) | ⟨x, hx, h1⟩
  · rcases h1 with rfl | rfl <;> omega
  · exact leb_byte _ y h1
  · have hi := may_items h ho x hx
    obtain ⟨_, _, _, hk, _⟩ := ok_item hi.2.1
    unfold itemB at h1
    simp only [List.mem_append, List.mem_cons, List.not_mem_nil, or_false] at h1
    rcases h1 with (((h2 | h2) | h2) | h2) | h2
    · omega
    · exact leb_byte _ y h2
    · exact bytesOf_byte _ y h2
    · exact hb x hx y h2
    · exact leb_byte _ y h2
theorem takeOut_fold {l : List Itm} (h : mayL l = true) (ho : okI l) (hb : bytI l) (hlen : (foldB l).length ≤ 4000) : takeOut (foldB l) = some l := by
  have h64 := (may_all h).1
  have hby := foldB_byte h ho hb
  have e : foldB l = [68, 49] ++ (leb l.length ++ l.flatMap itemB) := by unfold foldB foldTo; rw [List.take_length, List.append_assoc]
  have hp : Lib.hasPrefix (strOfNums (foldB l)).data.toList [68, 49] = true := (pre_eq _ hby).2 (by rw [e]; rfl)
  have hk := take_leb l.length 0 0 (l.flatMap itemB) (by simp; omega) (.inl rfl)
  simp only [Nat.pow_zero, Nat.mul_one, Nat.zero_add] at hk
  have hd : (foldB l).drop 2 = leb l.length ++ l.flatMap itemB := by rw [e]; rfl
  unfold takeOut
  rw [if_neg (by omega), if_neg (by rw [hp]; simp), hd]
  simp only [hk]
  rw [if_neg (by rintro (h1 | h1); exact h1 rfl; omega)]
  rw [Int.toNat_natCast, Int.toNat_natCast, List.drop_left]
  have := parseN_items l [] (may_items h ho)
  rw [List.append_nil] at this
  rw [this]
  simp only
  rw [if_neg (by rintro (h1 | h1); exact absurd h1 (by simp); rw [h] at h1; cases h1)]
end Go.Proofs.Ytmcankeggbofhaa.Fq
