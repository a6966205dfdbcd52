/- A folder's bytes, in plain lists: what is parsed is just what is written. -/
import Derived.Test.YtmcankeggbofhaaTg
namespace Go.Proofs.Ytmcankeggbofhaa.Fp
open Go.RowKit Go.Proofs.YtmcankeggbofhaaW.PrintWords Go.Proofs.YtmcankeggbofhaaW.PrintMore
open It Nm Ag My Spc By Im Iw Ip Tk Tg OctC OctD
set_option linter.unusedVariables false
set_option linter.unusedSimpArgs false
theorem take_inv (r : List Int) (hb : ∀ x ∈ r, 0 ≤ x ∧ x < 256) : ∀ (i v : Nat), (take i v r).2.2 = 0 →
    ∃ n : Nat, take i v r = (((v + n * 128 ^ i : Nat) : Int), ((i + (leb n).length : Nat) : Int), 0) ∧ r = leb n ++ r.drop (leb n).length ∧ (0 < i → 0 < n) := by
  induction r with
  | nil => intro i v h; simp [take] at h
  | cons c r ih =>
    intro i v h
    have hc := hb c (by simp)
    simp only [take] at h ⊢
    by_cases hB : (i = 9 ∧ c > 1) ∨ (c = 0 ∧ i > 0)
    · rw [if_pos hB] at h; simp at h
    · rw [if_neg hB] at h ⊢
      by_cases h128 : c < 128
      · rw [if_pos h128] at h ⊢
        have hl : leb c.toNat = [c] := by rw [leb_small (by omega)]; congr 1; omega
        refine ⟨c.toNat, by rw [hl]; rfl, by rw [hl]; rfl, fun hi => ?_⟩
        by_cases hz : c = 0
        · exact absurd (.inr ⟨hz, hi⟩) hB
        · omega
      · rw [if_neg h128] at h ⊢
        obtain ⟨n, h1, h2, h3⟩ := ih (fun x hx => hb x (by simp [hx])) (i + 1) _ h
        have hn := h3 (by omega)
        have hm : ((c.toNat - 128) + 128 * n) % 128 = c.toNat - 128 := by omega
        have hd : ((c.toNat - 128) + 128 * n) / 128 = n := by omega
        have hl : leb ((c.toNat - 128) + 128 * n) = c :: leb n := by
          rw [leb_big (by omega), hm, hd]
          congr 1; omega
        refine ⟨(c.toNat - 128) + 128 * n, ?_, ?_, fun _ => by omega⟩
        · rw [h1, hl]
          have e1 : v + (c.toNat - 128) * 128 ^ i + n * 128 ^ (i + 1) = v + (c.toNat - 128 + 128 * n) * 128 ^ i := by
            rw [Nat.pow_succ, Nat.add_mul]
            have : n * (128 ^ i * 128) = 128 * n * 128 ^ i := by rw [Nat.mul_comm (128 ^ i), ← Nat.mul_assoc, Nat.mul_comm n]
            omega
          rw [e1]
          simp only [List.length_cons]
          congr 2
          omega
        · rw [hl]
          simp only [List.length_cons, List.drop_succ_cons, List.cons_append]
          rw [← h2]
theorem take_just (l : List Int) (hb : ∀ x ∈ l, 0 ≤ x ∧ x < 256) (n a : Int) (h : take 0 0 l = (n, a, 0)) : l = leb n.toNat ++ l.drop a.toNat ∧ 0 ≤ n ∧ a = (leb n.toNat).length := by
  obtain ⟨m, h1, h2, _⟩ := take_inv l hb 0 0 (by rw [h])
  rw [h] at h1
  simp only [Prod.mk.injEq, Nat.pow_zero, Nat.mul_one, Nat.zero_add, and_true] at h1
  obtain ⟨rfl, rfl⟩ := h1
  exact ⟨by simpa using h2, by omega, by simp⟩
theorem text_just (l : List Int) (hb : ∀ x ∈ l, 0 ≤ x ∧ x < 256) (lb : List Int) (n : Int) (h : OctD.takeT l = (lb, n, 0)) : l = leb lb.length ++ lb ++ l.drop n.toNat ∧ n = ((leb lb.length).length + lb.length : Nat) := by
  unfold OctD.takeT at h
  by_cases h0 : (take 0 0 l).2.2 = 0
  · rw [if_pos h0] at h
    obtain ⟨v, a, e, hv1⟩ : ∃ v a e, take 0 0 l = (v, a, e) := ⟨_, _, _, rfl⟩
    rw [hv1] at h h0
    simp only at h h0
    subst h0
    obtain ⟨hj, hv0, ha⟩ := take_just l hb v a hv1
    by_cases h1 : v > 65536
    · rw [if_pos h1] at h; simp at h
    rw [if_neg h1] at h
    by_cases h2 : (l.length : Int) - a < v
    · rw [if_pos h2] at h; simp at h
    rw [if_neg h2] at h
    simp only [Prod.mk.injEq, and_true] at h
    obtain ⟨hlb, hn⟩ := h
    have hlen : lb.length = v.toNat := by rw [← hlb]; simp; omega
    refine ⟨?_, by rw [hlen, ← hn, ha]; omega⟩
    rw [hlen]
    have hd : l.drop n.toNat = (l.drop a.toNat).drop v.toNat := by rw [List.drop_drop]; congr 1; omega
    rw [hd, ← hlb, List.append_assoc, List.take_append_drop]
    exact hj
  · rw [if_neg h0] at h
    simp only [Prod.mk.injEq] at h
    exact absurd h.2.2 h0
theorem parse_just (b : List Int) (hby : ∀ x ∈ b, 0 ≤ x ∧ x < 256) (x : Itm) (r : List Int) (h : parse b = some (x, r)) : b = itemB x ++ r := by
  cases b with
  | nil => simp [parse] at h
  | cons c0 b =>
    have hbr : ∀ x ∈ b, 0 ≤ x ∧ x < 256 := fun x hx => hby x (by simp [hx])
    obtain ⟨lb, n7, e7, ht⟩ : ∃ lb n7 e7, OctD.takeT b = (lb, n7, e7) := ⟨_, _, _, rfl⟩
    simp only [parse, ht] at h
    by_cases he7 : e7 = 0
    · subst he7
      obtain ⟨hj, hn⟩ := text_just b hbr lb n7 ht
      rw [if_neg (by simp)] at h
      by_cases hsh : (b.drop n7.toNat).length < 32
      · rw [if_pos hsh] at h; simp at h
      rw [if_neg hsh] at h
      have hby2 : ∀ x ∈ (b.drop n7.toNat).drop 32, 0 ≤ x ∧ x < 256 := fun x hx => hbr x (List.mem_of_mem_drop (List.mem_of_mem_drop hx))
      obtain ⟨nv, nk, ne, hk⟩ : ∃ nv nk ne, take 0 0 ((b.drop n7.toNat).drop 32) = (nv, nk, ne) := ⟨_, _, _, rfl⟩
      rw [hk] at h
      simp only at h
      by_cases hbad : ne ≠ 0 ∨ 9223372036854775807 < nv
      · rw [if_pos hbad] at h; simp at h
      rw [if_neg hbad] at h
      simp only [Option.some.injEq, Prod.mk.injEq] at h
      obtain ⟨rfl, rfl⟩ := h
      have hne : ne = 0 := by
        by_cases h0 : ne = 0
        · exact h0
        · exact absurd (.inl h0) hbad
      subst hne
      obtain ⟨hj2, _, _⟩ := take_just _ hby2 nv nk hk
      unfold itemB
      have hlbb : bytesOf (strOfNums lb) = lb := bytesOf_str lb (fun x hx => hbr x (by rw [hj]; simp [hx]))
      simp only [strOfNums_size, hlbb]
      have e1 : b = leb lb.length ++ lb ++ ((b.drop n7.toNat).take 32 ++ (leb nv.toNat ++ ((b.drop n7.toNat).drop 32).drop nk.toNat)) := by
        rw [← hj2, List.take_append_drop]; exact hj
      simp only [List.append_assoc, List.cons_append, List.nil_append] at e1 ⊢
      rw [← e1]
    · rw [if_pos he7] at h; simp at h
theorem parseN_just (n : Nat) : ∀ (b : List Int), (∀ x ∈ b, 0 ≤ x ∧ x < 256) → ∀ l r, parseN n b = some (l, r) → b = l.flatMap itemB ++ r ∧ l.length = n ∧ (∀ x ∈ r, x ∈ b) ∧ okI l := by
  induction n with
  | zero =>
    intro b hb l r h
    simp only [parseN, Option.some.injEq, Prod.mk.injEq] at h
    obtain ⟨rfl, rfl⟩ := h
    exact ⟨rfl, rfl, fun x hx => hx, fun x hx => by simp at hx⟩
  | succ n ih =>
    intro b hb l r h
    rw [parseN] at h
    cases hp : parse b with
    | none => rw [hp] at h; simp at h
    | some q =>
      obtain ⟨x, b1⟩ := q
      rw [hp] at h
      simp only at h
      cases hn : parseN n b1 with
      | none => rw [hn] at h; simp at h
      | some q2 =>
        obtain ⟨l1, r1⟩ := q2
        rw [hn] at h
        simp only [Option.map_some, Option.some.injEq, Prod.mk.injEq] at h
        obtain ⟨rfl, rfl⟩ := h
        have hk := parse_ok b hb x b1 hp
        have hj := parse_just b hb x b1 hp
        obtain ⟨h1, h2, h3, h4⟩ := ih b1 (fun y hy => hb y (hk.2.2.2.1 y hy)) l1 r1 hn
        refine ⟨by rw [List.flatMap_cons, List.append_assoc, ← h1]; exact hj, by simp [h2], fun y hy => hk.2.2.2.1 y (h3 y hy), fun y hy => ?_⟩
        rcases List.mem_cons.1 hy with rfl | h5
        · exact ⟨hk.1, hk.2.2.1⟩
        · exact h4 y h5
theorem pre_eq (b : List Int) (hb : ∀ x ∈ b, 0 ≤ x ∧ x < 256) : Lib.hasPrefix (strOfNums b).data.toList [68, 49] = true ↔ b.take 2 = [68, 49] := by
  have hbb : bytesOf (strOfNums b) = b := bytesOf_str b hb
  constructor
  · intro h
    have h1 : ([68, 49] : List UInt8).isPrefixOf (strOfNums b).data.toList = true := h
    obtain ⟨t, ht⟩ := List.isPrefixOf_iff_prefix.1 h1
    rw [← hbb]
    unfold bytesOf
    rw [← ht]; rfl
  · intro h
    show ([68, 49] : List UInt8).isPrefixOf (strOfNums b).data.toList = true
    rw [List.isPrefixOf_iff_prefix]
    have h2 : b = [68, 49] ++ b.drop 2 := by rw [← h, List.take_append_drop]
    refine ⟨(strOfNums b).data.toList.drop 2, ?_⟩
    have h3 : (strOfNums b).data.toList.take 2 = [68, 49] := by
      rw [strOfNums_data, h2]; rfl
    rw [← h3, List.take_append_drop]
theorem takeOut_some (b : List Int) (hb : ∀ x ∈ b, 0 ≤ x ∧ x < 256) (l : List Itm) (h : takeOut b = some l) : mayL l = true ∧ foldB l = b ∧ b.length ≤ 4000 ∧ okI l := by
  unfold takeOut at h
  by_cases hl : 4000 < b.length
  · rw [if_pos hl] at h; simp at h
  rw [if_neg hl] at h
  by_cases hp : Lib.hasPrefix (strOfNums b).data.toList [68, 49] = false
  · rw [if_pos hp] at h; simp at h
  rw [if_neg hp] at h
  have hp1 : b.take 2 = [68, 49] := (pre_eq b hb).1 (by simpa using hp)
  obtain ⟨nv, nk, ne, hk⟩ : ∃ nv nk ne, take 0 0 (b.drop 2) = (nv, nk, ne) := ⟨_, _, _, rfl⟩
  simp only [hk] at h
  by_cases hbad : ne ≠ 0 ∨ 64 < nv
  · rw [if_pos hbad] at h; simp at h
  rw [if_neg hbad] at h
  have hne : ne = 0 := by
    by_cases h0 : ne = 0
    · exact h0
    · exact absurd (.inl h0) hbad
  subst hne
  have hb2 : ∀ x ∈ b.drop 2, 0 ≤ x ∧ x < 256 := fun x hx => hb x (List.mem_of_mem_drop hx)
  obtain ⟨hj, _, _⟩ := take_just (b.drop 2) hb2 nv nk hk
  cases hn : parseN nv.toNat ((b.drop 2).drop nk.toNat) with
  | none => rw [hn] at h; simp at h
  | some q =>
    obtain ⟨l1, r⟩ := q
    rw [hn] at h
    simp only at h
    by_cases hbad2 : 0 < r.length ∨ mayL l1 = false
    · rw [if_pos hbad2] at h; simp at h
    rw [if_neg hbad2] at h
    obtain rfl : l1 = l := Option.some.inj h
    have hr : r = [] := List.eq_nil_of_length_eq_zero (by omega)
    have hm : mayL l1 = true := by
      cases hm : mayL l1 with
      | true => rfl
      | false => exact absurd (.inr hm) hbad2
    obtain ⟨h1, h2, _, h4⟩ := parseN_just _ _ (fun x hx => hb2 x (List.mem_of_mem_drop hx)) l1 r hn
    refine ⟨hm, ?_, by omega, h4⟩
    unfold foldB foldTo
    rw [hr, List.append_nil] at h1
    rw [List.take_length, h2, ← h1, List.append_assoc, ← hj, ← hp1, List.take_append_drop]
end Go.Proofs.Ytmcankeggbofhaa.Fp
