/- A folder's bytes, in plain lists: what is parsed is just what is written. A folder's bytes, in plain lists: what is written is parsed. begun: does folder do anything yet? Which bytes are a folder, by the document: the same as the program's. -/
import Derived.Test.YtmcankeggbofhaaGc
import Derived.Test.YtmcankeggbofhaaGb
namespace Go.Proofs.Ytmcankeggbofhaa.Fp
open Go.RowKit Go.Proofs.YtmcankeggbofhaaW.PrintWords Go.Proofs.YtmcankeggbofhaaW.PrintMore
open It Nm Ag My Spc By Im Iw Ip Tk Tg OctC OctD
set_option linter.unusedVariables false
set_option linter.unusedSimpArgs false
theorem take_inv (r : List Int) (hb : ∀ x ∈ r, 0 ≤ x ∧ x < 256) : ∀ (i v : Nat), (take i v r).2.2 = 0 →
    ∃ n : Nat, take i v r = (((v + n * 128 ^ i : Nat) : Int), ((i + (leb n).length : Nat) : Int), 0) ∧ r = leb n ++ r.drop (leb n).length ∧ (0 < i → 0 < n) := by
  induction r with
  | nil => intro i v h; simp [take] at h
  | cons c r ih =>
    intro i v h
    have hc := hb c (by simp)
    simp only [take] at h ⊢
    by_cases hB : (i = 9 ∧ c > 1) ∨ (c = 0 ∧ i > 0)
    · rw [if_pos hB] at h; simp at h
    · rw [if_neg hB] at h ⊢
      by_cases h128 : c < 128
      · rw [if_pos h128] at h ⊢
        have hl : leb c.toNat = [c] := by rw [leb_small (by omega)]; congr 1; omega
        refine ⟨c.toNat, by rw [hl]; rfl, by rw [hl]; rfl, fun hi => ?_⟩
        by_cases hz : c = 0
        · exact absurd (.inr ⟨hz, hi⟩) hB
        · omega
      · rw [if_neg h128] at h ⊢
        obtain ⟨n, h1, h2, h3⟩ := ih (fun x hx => hb x (by simp [hx])) (i + 1) _ h
        have hn := h3 (by omega)
        have hm : ((c.toNat - 128) + 128 * n) % 128 = c.toNat - 128 := by omega
        have hd : ((c.toNat - 128) + 128 * n) / 128 = n := by omega
        have hl : leb ((c.toNat - 128) + 128 * n) = c :: leb n := by
          rw [leb_big (by omega), hm, hd]
          congr 1; omega
        refine ⟨(c.toNat - 128) + 128 * n, ?_, ?_, fun _ => by omega⟩
        · rw [h1, hl]
          have e1 : v + (c.toNat - 128) * 128 ^ i + n * 128 ^ (i + 1) = v + (c.toNat - 128 + 128 * n) * 128 ^ i := by
            rw [Nat.pow_succ, Nat.add_mul]
            have : n * (128 ^ i * 128) = 128 * n * 128 ^ i := by rw [Nat.mul_comm (128 ^ i), ← Nat.mul_assoc, Nat.mul_comm n]
            omega
          rw [e1]
          simp only [List.length_cons]
          congr 2
          omega
        · rw [hl]
          simp only [List.length_cons, List.drop_succ_cons, List.cons_append]
          rw [← h2]
theorem take_just (l : List Int) (hb : ∀ x ∈ l, 0 ≤ x ∧ x < 256) (n a : Int) (h : take 0 0 l = (n, a, 0)) : l = leb n.toNat ++ l.drop a.toNat ∧ 0 ≤ n ∧ a = (leb n.toNat).length := by
  obtain ⟨m, h1, h2, _⟩ := take_inv l hb 0 0 (by rw [h])
  rw [h] at h1
  simp only [Prod.mk.injEq, Nat.pow_zero, Nat.mul_one, Nat.zero_add, and_true] at h1
  obtain ⟨rfl, rfl⟩ := h1
  exact ⟨by simpa using h2, by omega, by simp⟩
theorem text_just (l : List Int) (hb : ∀ x ∈ l, 0 ≤ x ∧ x < 256) (lb : List Int) (n : Int) (h : OctD.takeT l = (lb, n, 0)) : l = leb lb.length ++ lb ++ l.drop n.toNat ∧ n = ((leb lb.length).length + lb.length : Nat) := by
  unfold OctD.takeT at h
  by_cases h0 : (take 0 0 l).2.2 = 0
  · rw [if_pos h0] at h
    obtain ⟨v, a, e, hv1⟩ : ∃ v a e, take 0 0 l = (v, a, e) := ⟨_, _, _, rfl⟩
    rw [hv1] at h h0
    simp only at h h0
    subst h0
    obtain ⟨hj, hv0, ha⟩ := take_just l hb v a hv1
    by_cases h1 : v > 65536
    · rw [if_pos h1] at h; simp at h
    rw [if_neg h1] at h
    by_cases h2 : (l.length : Int) - a < v
    · rw [if_pos h2] at h; simp at h
    rw [if_neg h2] at h
    simp only [Prod.mk.injEq, and_true] at h
    obtain ⟨hlb, hn⟩ := h
    have hlen : lb.length = v.toNat := by rw [← hlb]; simp; omega
    refine ⟨?_, by rw [hlen, ← hn, ha]; omega⟩
    rw [hlen]
    have hd : l.drop n.toNat = (l.drop a.toNat).drop v.toNat := by rw [List.drop_drop]; congr 1; omega
    rw [hd, ← hlb, List.append_assoc, List.take_append_drop]
    exact hj
  · rw [if_neg h0] at h
    simp only [Prod.mk.injEq] at h
    exact absurd h.2.2 h0
theorem parse_just (b : List Int) (hby : ∀ x ∈ b, 0 ≤ x ∧ x < 256) (x : Itm) (r : List Int) (h : parse b = some (x, r)) : b = itemB x ++ r := by
  cases b with
  | nil => simp [parse] at h
  | cons c0 b =>
    have hbr : ∀ x ∈ b, 0 ≤ x ∧ x < 256 := fun x hx => hby x (by simp [hx])
    obtain ⟨lb, n7, e7, ht⟩ : ∃ lb n7 e7, OctD.takeT b = (lb, n7, e7) := ⟨_, _, _, rfl⟩
    simp only [parse, ht] at h
    by_cases he7 : e7 = 0
    · subst he7
      obtain ⟨hj, hn⟩ := text_just b hbr lb n7 ht
      rw [if_neg (by simp)] at h
      by_cases hsh : (b.drop n7.toNat).length < 32
      · rw [if_pos hsh] at h; simp at h
      rw [if_neg hsh] at h
      have hby2 : ∀ x ∈ (b.drop n7.toNat).drop 32, 0 ≤ x ∧ x < 256 := fun x hx => hbr x (List.mem_of_mem_drop (List.mem_of_mem_drop hx))
      obtain ⟨nv, nk, ne, hk⟩ : ∃ nv nk ne, take 0 0 ((b.drop n7.toNat).drop 32) = (nv, nk, ne) := ⟨_, _, _, rfl⟩
      rw [hk] at h
      simp only at h
      by_cases hbad : ne ≠ 0 ∨ 9223372036854775807 < nv
      · rw [if_pos hbad] at h; simp at h
      rw [if_neg hbad] at h
      simp only [Option.some.injEq, Prod.mk.injEq] at h
      obtain ⟨rfl, rfl⟩ := h
      have hne : ne = 0 := by
        by_cases h0 : ne = 0
        · exact h0
        · exact absurd (.inl h0) hbad
      subst hne
      obtain ⟨hj2, _, _⟩ := take_just _ hby2 nv nk hk
      unfold itemB
      have hlbb : bytesOf (strOfNums lb) = lb := bytesOf_str lb (fun x hx => hbr x (by rw [hj]; simp [hx]))
      simp only [strOfNums_size, hlbb]
      have e1 : b = leb lb.length ++ lb ++ ((b.drop n7.toNat).take 32 ++ (leb nv.toNat ++ ((b.drop n7.toNat).drop 32).drop nk.toNat)) := by
        rw [← hj2, List.take_append_drop]; exact hj
      simp only [List.append_assoc, List.cons_append, List.nil_append] at e1 ⊢
      rw [← e1]
    · rw [if_pos he7] at h; simp at h
theorem parseN_just (n : Nat) : ∀ (b : List Int), (∀ x ∈ b, 0 ≤ x ∧ x < 256) → ∀ l r, parseN n b = some (l, r) → b = l.flatMap itemB ++ r ∧ l.length = n ∧ (∀ x ∈ r, x ∈ b) ∧ okI l := by
  induction n with
  | zero =>
    intro b hb l r h
    simp only [parseN, Option.some.injEq, Prod.mk.injEq] at h
    obtain ⟨rfl, rfl⟩ := h
    exact ⟨rfl, rfl, fun x hx => hx, fun x hx => by simp at hx⟩
  | succ n ih =>
    intro b hb l r h
    rw [parseN] at h
    cases hp : parse b with
    | none => rw [hp] at h; simp at h
    | some q =>
      obtain ⟨x, b1⟩ := q
      rw [hp] at h
      simp only at h
      cases hn : parseN n b1 with
      | none => rw [hn] at h; simp at h
      | some q2 =>
        obtain ⟨l1, r1⟩ := q2
        rw [hn] at h
        simp only [Option.map_some, Option.some.injEq, Prod.mk.injEq] at h
        obtain ⟨rfl, rfl⟩ := h
        have hk := parse_ok b hb x b1 hp
        have hj := parse_just b hb x b1 hp
        obtain ⟨h1, h2, h3, h4⟩ := ih b1 (fun y hy => hb y (hk.2.2.2.1 y hy)) l1 r1 hn
        refine ⟨by rw [List.flatMap_cons, List.append_assoc, ← h1]; exact hj, by simp [h2], fun y hy => hk.2.2.2.1 y (h3 y hy), fun y hy => ?_⟩
        rcases List.mem_cons.1 hy with rfl | h5
        · exact ⟨hk.1, hk.2.2.1⟩
        · exact h4 y h5
theorem pre_eq (b : List Int) (hb : ∀ x ∈ b, 0 ≤ x ∧ x < 256) : Lib.hasPrefix (strOfNums b).data.toList [68, 49] = true ↔ b.take 2 = [68, 49] := by
  have hbb : bytesOf (strOfNums b) = b := bytesOf_str b hb
  constructor
  · intro h
    have h1 : ([68, 49] : List UInt8).isPrefixOf (strOfNums b).data.toList = true := h
    obtain ⟨t, ht⟩ := List.isPrefixOf_iff_prefix.1 h1
    rw [← hbb]
    unfold bytesOf
    rw [← ht]; rfl
  · intro h
    show ([68, 49] : List UInt8).isPrefixOf (strOfNums b).data.toList = true
    rw [List.isPrefixOf_iff_prefix]
    have h2 : b = [68, 49] ++ b.drop 2 := by rw [← h, List.take_append_drop]
    refine ⟨(strOfNums b).data.toList.drop 2, ?_⟩
    have h3 : (strOfNums b).data.toList.take 2 = [68, 49] := by
      rw [strOfNums_data, h2]; rfl
    rw [← h3, List.take_append_drop]
theorem takeOut_some (b : List Int) (hb : ∀ x ∈ b, 0 ≤ x ∧ x < 256) (l : List Itm) (h : takeOut b = some l) : mayL l = true ∧ foldB l = b ∧ b.length ≤ 4000 ∧ okI l := by
  unfold takeOut at h
  by_cases hl : 4000 < b.length
  · rw [if_pos hl] at h; simp at h
  rw [if_neg hl] at h
  by_cases hp : Lib.hasPrefix (strOfNums b).data.toList [68, 49] = false
  · rw [if_pos hp] at h; simp at h
  rw [if_neg hp] at h
  have hp1 : b.take 2 = [68, 49] := (pre_eq b hb).1 (by simpa using hp)
  obtain ⟨nv, nk, ne, hk⟩ : ∃ nv nk ne, take 0 0 (b.drop 2) = (nv, nk, ne) := ⟨_, _, _, rfl⟩
  simp only [hk] at h
  by_cases hbad : ne ≠ 0 ∨ 64 < nv
  · rw [if_pos hbad] at h; simp at h
  rw [if_neg hbad] at h
  have hne : ne = 0 := by
    by_cases h0 : ne = 0
    · exact h0
    · exact absurd (.inl h0) hbad
  subst hne
  have hb2 : ∀ x ∈ b.drop 2, 0 ≤ x ∧ x < 256 := fun x hx => hb x (List.mem_of_mem_drop hx)
  obtain ⟨hj, _, _⟩ := take_just (b.drop 2) hb2 nv nk hk
  cases hn : parseN nv.toNat ((b.drop 2).drop nk.toNat) with
  | none => rw [hn] at h; simp at h
  | some q =>
    obtain ⟨l1, r⟩ := q
    rw [hn] at h
    simp only at h
    by_cases hbad2 : 0 < r.length ∨ mayL l1 = false
    · rw [if_pos hbad2] at h; simp at h
    rw [if_neg hbad2] at h
    obtain rfl : l1 = l := Option.some.inj h
    have hr : r = [] := List.eq_nil_of_length_eq_zero (by omega)
    have hm : mayL l1 = true := by
      cases hm : mayL l1 with
      | true => rfl
      | false => exact absurd (.inr hm) hbad2
    obtain ⟨h1, h2, _, h4⟩ := parseN_just _ _ (fun x hx => hb2 x (List.mem_of_mem_drop hx)) l1 r hn
    refine ⟨hm, ?_, by omega, h4⟩
    unfold foldB foldTo
    rw [hr, List.append_nil] at h1
    rw [List.take_length, h2, ← h1, List.append_assoc, ← hj, ← hp1, List.take_append_drop]
end Go.Proofs.Ytmcankeggbofhaa.Fp
namespace Go.Proofs.Ytmcankeggbofhaa.Fq
open Go.RowKit Go.Proofs.YtmcankeggbofhaaW.PrintWords Go.Proofs.YtmcankeggbofhaaW.PrintMore
open It Nm Ag My Spc By Im Iw Ip Tk Tg OctC OctD Fp
set_option linter.unusedVariables false
set_option linter.unusedSimpArgs false
theorem parse_item (x : Itm) (hok : Ok x) (hi : okItem x = true) (hz : x.size ≤ 9223372036854775807) (r : List Int) : parse (itemB x ++ r) = some (x, r) := by
  obtain ⟨h1, h2, h3, h4, _⟩ := ok_item hi
  have hbl : (bytesOf x.name).length = x.name.size := bytesOf_length _
  have ht := takeT_text (bytesOf x.name) (x.of ++ (leb x.size.toNat ++ r)) (by omega)
  rw [hbl] at ht
  have hk := take_leb x.size.toNat 0 0 r (by simp; omega) (.inl rfl)
  simp only [Nat.pow_zero, Nat.mul_one, Nat.zero_add] at hk
  have e : itemB x ++ r = x.kind :: (leb x.name.size ++ bytesOf x.name ++ (x.of ++ (leb x.size.toNat ++ r))) := by simp [itemB]
  rw [e]
  simp only [parse, ht]
  rw [if_neg (by simp)]
  have hd : (leb x.name.size ++ bytesOf x.name ++ (x.of ++ (leb x.size.toNat ++ r))).drop (((leb x.name.size).length + x.name.size : Nat) : Int).toNat = x.of ++ (leb x.size.toNat ++ r) := by
    rw [Int.toNat_natCast, ← hbl, ← List.length_append, List.drop_left]
  rw [hd]
  unfold Ok at hok
  rw [if_neg (by simp [hok])]
  have hd2 : (x.of ++ (leb x.size.toNat ++ r)).drop 32 = leb x.size.toNat ++ r := by rw [← hok, List.drop_left]
  have ht2 : (x.of ++ (leb x.size.toNat ++ r)).take 32 = x.of := by rw [← hok, List.take_left]
  rw [hd2, ht2, hk]
  simp only
  rw [if_neg (by rintro (h | h); exact h rfl; omega)]
  have hn : ((x.size.toNat : Nat) : Int) = x.size := Int.toNat_of_nonneg h3
  rw [Int.toNat_natCast, List.drop_left, hn, str_bytesOf]
theorem parseN_items : ∀ (l : List Itm) (r : List Int), (∀ x ∈ l, Ok x ∧ okItem x = true ∧ x.size ≤ 9223372036854775807) → parseN l.length (l.flatMap itemB ++ r) = some (l, r)
  | [], r, _ => rfl
  | x :: l, r, h => by
    have hx := h x (by simp)
    rw [List.flatMap_cons, List.append_assoc, List.length_cons, parseN, parse_item x hx.1 hx.2.1 hx.2.2]
    simp only
    rw [parseN_items l r (fun y hy => h y (by simp [hy]))]
    rfl
theorem may_items {l : List Itm} (h : mayL l = true) (ho : okI l) : ∀ x ∈ l, Ok x ∧ okItem x = true ∧ x.size ≤ 9223372036854775807 := by
  intro x hx
  obtain ⟨i, hi, rfl⟩ := List.mem_iff_getElem.1 hx
  have := step_item ((may_all h).2 i hi)
  rw [at_get l i hi] at this
  exact ⟨(ho _ hx).1, this, (ho _ hx).2⟩
def bytI (l : List Itm) : Prop := ∀ x ∈ l, ∀ y ∈ x.of, 0 ≤ y ∧ y < 256
theorem foldB_byte {l : List Itm} (h : mayL l = true) (ho : okI l) (hb : bytI l) : ∀ y ∈ foldB l, 0 ≤ y ∧ y < 256 := by
  intro y hy
  unfold foldB foldTo at hy
  rw [List.take_length] at hy
  simp only [List.mem_append, List.mem_cons, List.not_mem_nil, or_false, List.mem_flatMap] at hy
  rcases hy with (h1 | h1) | ⟨x, hx, h1⟩
  · rcases h1 with rfl | rfl <;> omega
  · exact leb_byte _ y h1
  · have hi := may_items h ho x hx
    obtain ⟨_, _, _, hk, _⟩ := ok_item hi.2.1
    unfold itemB at h1
    simp only [List.mem_append, List.mem_cons, List.not_mem_nil, or_false] at h1
    rcases h1 with (((h2 | h2) | h2) | h2) | h2
    · omega
    · exact leb_byte _ y h2
    · exact bytesOf_byte _ y h2
    · exact hb x hx y h2
    · exact leb_byte _ y h2
theorem takeOut_fold {l : List Itm} (h : mayL l = true) (ho : okI l) (hb : bytI l) (hlen : (foldB l).length ≤ 4000) : takeOut (foldB l) = some l := by
  have h64 := (may_all h).1
  have hby := foldB_byte h ho hb
  have e : foldB l = [68, 49] ++ (leb l.length ++ l.flatMap itemB) := by unfold foldB foldTo; rw [List.take_length, List.append_assoc]
  have hp : Lib.hasPrefix (strOfNums (foldB l)).data.toList [68, 49] = true := (pre_eq _ hby).2 (by rw [e]; rfl)
  have hk := take_leb l.length 0 0 (l.flatMap itemB) (by simp; omega) (.inl rfl)
  simp only [Nat.pow_zero, Nat.mul_one, Nat.zero_add] at hk
  have hd : (foldB l).drop 2 = leb l.length ++ l.flatMap itemB := by rw [e]; rfl
  unfold takeOut
  rw [if_neg (by omega), if_neg (by rw [hp]; simp), hd]
  simp only [hk]
  rw [if_neg (by rintro (h1 | h1); exact h1 rfl; omega)]
  rw [Int.toNat_natCast, Int.toNat_natCast, List.drop_left]
  have := parseN_items l [] (may_items h ho)
  rw [List.append_nil] at this
  rw [this]
  simp only
  rw [if_neg (by rintro (h1 | h1); exact absurd h1 (by simp); rw [h] at h1; cases h1)]
end Go.Proofs.Ytmcankeggbofhaa.Fq
namespace Go.Proofs.Ytmcankeggbofhaa.Bg
open Go.RowKit Go.Proofs.YtmcankeggbofhaaW.PrintWords Go.Proofs.YtmcankeggbofhaaW.PrintMore
open It Nm Ag My Spc By Im Iw Ip Tk Tl Tg OctC OctD Fp Fq
set_option linter.unusedVariables false
set_option linter.unusedSimpArgs false
set_option maxRecDepth 100000
def xa : Itm := ⟨⟨#[97]⟩, 1, List.replicate 32 0, 3⟩
theorem builtx : Try.prog.built 28 [(0, .string ⟨#[97]⟩), (1, .int .i64 1), (3, .int .i64 3)] = some (cellsOf xa).toArray := by kernel_rfl
theorem okx : Ok xa := by simp [Ok, xa]
theorem name_a : okName ⟨#[97]⟩ = true := by
  unfold okName hasB
  rw [ByteArray.toList_eq]
  rfl
theorem name_b : okName ⟨#[46, 46]⟩ = false := by
  unfold okName hasB
  rw [ByteArray.toList_eq]
  rfl
theorem mayx : mayL [xa] = true := by
  refine may_yes [xa] (by simp) (fun j hj => ?_)
  have : j = 0 := by simp at hj; omega
  subst this
  unfold stepB okItem
  rw [show (at_ [xa] 0).name = ⟨#[97]⟩ from rfl, name_a]
  rfl
theorem foldx_len : (foldB [xa]).length = 39 := by
  unfold foldB foldTo
  have h1 : leb xa.name.size = [1] := by rw [show xa.name.size = 1 from rfl, leb_small (by omega)]; rfl
  have h2 : leb xa.size.toNat = [3] := by rw [show xa.size.toNat = 3 from rfl, leb_small (by omega)]; rfl
  have h3 : leb ([xa] : List Itm).length = [1] := by rw [show ([xa] : List Itm).length = 1 from rfl, leb_small (by omega)]; rfl
  rw [h3]
  simp only [List.length_cons, List.length_nil, List.take_succ_cons, List.take_nil, List.flatMap_cons, List.flatMap_nil]
  unfold itemB
  rw [h1, h2]
  rfl
theorem okl : okI [xa] := fun x hx => by rw [List.mem_singleton.1 hx]; exact ⟨okx, by decide⟩
theorem bytl : bytI [xa] := fun x hx y hy => by
  rw [List.mem_singleton.1 hx] at hy
  have := List.eq_of_mem_replicate hy
  omega
theorem outx : bytesOut [xa] = (foldB [xa], 0) := by unfold bytesOut; rw [if_pos mayx, if_pos (by rw [foldx_len]; omega)]
theorem tookx : takeOut (foldB [xa]) = some [xa] := takeOut_fold mayx okl bytl (by rw [foldx_len]; omega)
theorem ci_lit (W : World) {x : Itm} (hok : Ok x) : CI (W.alloc (.cells (cellsOf x).toArray 28)) (some ⟨W.heap.size, 0, none⟩) [x] := by
  refine ⟨rfl, by simp, fun _ => ⟨_, rfl, fun j p hj => ?_⟩⟩
  have hj0 : j = 0 := by
    rcases Nat.eq_zero_or_pos j with h | h
    · exact h
    · rw [List.getElem?_eq_none (by simp; omega)] at hj; cases hj
  subst hj0
  obtain rfl : x = p := by simpa using hj
  refine ⟨cellsOf x, cells_len hok, ⟨rfl, hok⟩, fun i u hu => ?_⟩
  have e : (⟨W.heap.size, 0, none⟩ : Addr).add (0 * kd.sz + i) = ⟨W.heap.size, i, none⟩ := by
    rw [Nat.zero_mul, Nat.zero_add]
    unfold Addr.add
    by_cases h0 : i = 0
    · subst h0; rfl
    · simp [h0]
  rw [e, blk_cell (heap_alloc_new W _)]
  simpa using hu
set_option maxHeartbeats 3200000 in
theorem begun_calls (w : World) : Calls Try.prog 9 #[] w fun e w' => e = .returned (.bool true) ∧ Below w.heap.size w w' := by
  have HBx := Aside0.mk builtx
  have KA := Aside0.mk (fun w => name_calls ⟨#[97]⟩ w); have KB := Aside0.mk (fun w => name_calls ⟨#[46, 46]⟩ w)
  rw [name_a] at KA; rw [name_b] at KB
  obtain ⟨l, hl⟩ : ∃ l, Aside0 (l = [xa]) := ⟨_, ⟨rfl⟩⟩
  go_enter Try.func9, Try.ntmps9
  go_wp2_with (first | (refine op_build rfl 28 _ rfl (cellsOf xa).toArray (by rw [List.map_toArray]; exact HBx.out) ?_) | (refine op_lit1 rfl (.tmp 6) rfl xa okx rfl ?_))
  have HB := Aside0.mk ((Below.refl w.heap.size w).alloc (Nat.le_refl _) (.cells (cellsOf xa).toArray 28))
  refine (bytes_calls (some ⟨w.heap.size, 0, none⟩) 1 [xa] _ (ci_lit w okx) (by decide) (by decide) okl).mono ?_
  obtain ⟨bb, hbb⟩ : ∃ bb, Aside0 (bb = foldB [xa]) := ⟨_, ⟨rfl⟩⟩
  rw [outx, ← hbb.out]
  rintro e1 w1 ⟨v1, rfl, ho1, hb1⟩
  obtain ⟨A1, c1, rfl, hc1, hC1⟩ := Kd.R_reads ho1
  have HB1 := Aside0.mk (below_step HB.out hb1)
  have HC1 := Aside0.mk hC1
  have hln : bb.length = 39 := by rw [hbb.out]; exact foldx_len
  have HT := Aside0.mk (fun w h => take_calls A1 c1 bb w h hc1 (by rw [hbb.out]; exact foldB_byte mayx okl bytl))
  rw [show takeOut bb = some [xa] by rw [hbb.out]; exact tookx] at HT
  have HLN := Aside0.mk hln
  have HT2 : Aside0 (∀ w, CB w A1 bb → Calls Try.prog 20 #[.slice A1 39 c1] w fun e w' => ∃ v, e = .returned (.tuple #[v, .int .i64 0]) ∧ RI w' w.heap.size v [xa] ∧ Below w.heap.size w w') := ⟨by rw [← HLN.out]; exact HT.out⟩
  clear ho1 hb1 hC1 hc1 HB HT
  simp only [hln]
  clear hln
  go_wp2_with fail
  refine (HT2.out _ HC1.out).mono ?_
  rintro e2 w2 ⟨v2, rfl, ho2, hb2⟩
  obtain ⟨A2, c2, rfl, hc2, hC2⟩ := Kd.R_reads ho2
  have HB2 := Aside0.mk (below_step HB1.out hb2)
  obtain ⟨ad, rfl, _, hn, _⟩ := item_at hC2 0 (by simp)
  obtain ⟨sa, hsa, hsq⟩ : ∃ sa : ByteArray, Aside0 (sa = ⟨#[97]⟩) ∧ (sa.toList == [97]) = true := ⟨_, ⟨rfl⟩, by rw [ByteArray.toList_eq]; rfl⟩
  have hn2 : w2.cell? ad = some (.string sa) := by rw [hsa.out]; exact hn
  clear ho2 hb2 hC2 hc2 hn
  simp only [List.length_singleton]
  go_wp2_with (go_at_call 23; fail)
  refine (KA.out _).mono ?_
  rintro e3 w3 ⟨rfl, hw3⟩
  rw [hw3]
  clear hw3 w3
  go_wp2_with (go_at_call 23; fail)
  refine (KB.out _).mono ?_
  rintro e4 w4 ⟨rfl, hw4⟩
  rw [hw4]
  clear hw4 w4
  go_wp2_with fail
  go_ret
  exact ⟨rfl, HB2.out⟩
end Go.Proofs.Ytmcankeggbofhaa.Bg
namespace Go.Proofs.Ytmcankeggbofhaa.Rt
open Go.RowKit Go.Proofs.YtmcankeggbofhaaW.PrintWords Go.Proofs.YtmcankeggbofhaaW.PrintMore
open It Nm Ag My Spc By Im Iw Ip Tk Tg OctC OctD Fp Fq
set_option linter.unusedVariables false
set_option linter.unusedSimpArgs false
def refHead (b : List Int) : Prop := 3 ≤ b.length ∧ b.getD 0 0 = 68 ∧ b.getD 1 0 = 49 ∧ b.getD 2 0 ≤ 64
def refLast (b : List Int) : Option (List Itm × List Int) → Option (List Itm)
  | none => none
  | some (l, r) => if (bytesOut l).2 = 0 ∧ (bytesOut l).1 = b then some l else none
theorem last_none (b : List Int) (hb : ∀ x ∈ b, 0 ≤ x ∧ x < 256) (h : ¬ refHead b) : takeOut b = none := by
  cases ht : takeOut b with
  | none => rfl
  | some l =>
    exfalso
    apply h
    obtain ⟨hm, hf, hl, ho⟩ := takeOut_some b hb l ht
    have h64 := (may_all hm).1
    have e : b = 68 :: 49 :: (l.length : Int) :: l.flatMap itemB := by
      rw [← hf]; unfold foldB foldTo; rw [List.take_length, leb_small (by omega)]; rfl
    rw [e]
    refine ⟨by simp, rfl, rfl, ?_⟩
    show (l.length : Int) ≤ 64
    omega
theorem last_eq (b : List Int) (hb : ∀ x ∈ b, 0 ≤ x ∧ x < 256) (h : refHead b) : takeOut b = refLast b (parseN (b.getD 2 0).toNat (b.drop 3)) := by
  obtain ⟨h3, h0, h1, h2⟩ := h
  cases ht : takeOut b with
  | some l =>
    obtain ⟨hm, hf, hl, ho⟩ := takeOut_some b hb l ht
    have h64 := (may_all hm).1
    have e : b = 68 :: 49 :: (l.length : Int) :: l.flatMap itemB := by
      rw [← hf]; unfold foldB foldTo; rw [List.take_length, leb_small (by omega)]; rfl
    have hp : parseN (b.getD 2 0).toNat (b.drop 3) = some (l, []) := by
      rw [e]
      show parseN ((l.length : Int)).toNat (l.flatMap itemB) = _
      rw [Int.toNat_natCast]
      have := parseN_items l [] (may_items hm ho)
      rwa [List.append_nil] at this
    rw [hp]
    simp only [refLast]
    have hbo : bytesOut l = (b, 0) := by unfold bytesOut; rw [if_pos hm, if_pos (by rw [hf]; exact hl), hf]
    rw [hbo, if_pos ⟨rfl, rfl⟩]
  | none =>
    cases hp : parseN (b.getD 2 0).toNat (b.drop 3) with
    | none => rfl
    | some q =>
      obtain ⟨l, r⟩ := q
      simp only [refLast]
      by_cases hbo : (bytesOut l).2 = 0 ∧ (bytesOut l).1 = b
      · exfalso
        obtain ⟨hz, hbb⟩ := hbo
        obtain ⟨hj, hln, hr, ho⟩ := parseN_just _ _ (fun x hx => hb x (List.mem_of_mem_drop hx)) l r hp
        unfold bytesOut at hz hbb
        by_cases hm : mayL l = true
        · rw [if_pos hm] at hz hbb
          by_cases hl : (foldB l).length ≤ 4000
          · rw [if_pos hl] at hz hbb
            have hbb' : foldB l = b := hbb
            have hbi : bytI l := by
              intro x hx y hy
              refine hb y ?_
              rw [← hbb']
              unfold foldB foldTo
              rw [List.take_length]
              refine List.mem_append_right _ (List.mem_flatMap.2 ⟨x, hx, ?_⟩)
              unfold itemB
              simp [hy]
            rw [← hbb', takeOut_fold hm ho hbi hl] at ht
            cases ht
          · rw [if_neg hl] at hz; simp at hz
        · rw [if_neg hm] at hz; simp at hz
      · rw [if_neg hbo]
end Go.Proofs.Ytmcankeggbofhaa.Rt
