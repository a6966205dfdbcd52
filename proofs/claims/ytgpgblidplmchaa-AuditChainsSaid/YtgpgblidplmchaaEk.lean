/- What an entry's bytes say: read as it was written, whatever stands behind; cut off it is short. Are entries not too great? -/
import Derived.Test.YtgpgblidplmchaaEh
namespace Go.Proofs.Ytgpgblidplmchaa.Ek
open Go.RowKit Go.Proofs.YtgpgblidplmchaaW.PrintWords Go.Proofs.YtgpgblidplmchaaW.PrintLast Go.Proofs.YtgpgblidplmchaaW.PrintMore
open En Ag Spc OctA OctC Eb Eg Ep Et Eu Eh
set_option linter.unusedVariables false
set_option linter.unusedSimpArgs false
set_option maxRecDepth 100000
theorem bytesE_len {x : Ent} (hok : Ok x) : (bytesE x).length = 60 + x.ten.size := by
  unfold Ok at hok
  unfold bytesE
  simp [be_length, bytesOf_length, hok]
  omega
theorem getD_app (a b : List Int) (i : Nat) (h : a.length ≤ i) : (a ++ b).getD i 0 = b.getD (i - a.length) 0 := by
  rw [List.getD_eq_getElem?_getD, List.getD_eq_getElem?_getD, List.getElem?_append_right h]
theorem getD_left (a b : List Int) (i : Nat) (h : i < a.length) : (a ++ b).getD i 0 = a.getD i 0 := by
  rw [List.getD_eq_getElem?_getD, List.getD_eq_getElem?_getD, List.getElem?_append_left h]
theorem be8_0 (v : Nat) : (be 8 v).getD 0 0 = ((v / 256 ^ 7 % 256 : Nat) : Int) := rfl
theorem high (v : Int) (h0 : 0 ≤ v) (h : v ≤ 9223372036854775807) : (be 8 v.toNat).getD 0 0 ≤ 127 := by
  rw [be8_0]
  have h7 : (256 : Nat) ^ 7 = 72057594037927936 := by decide
  rw [h7]; omega
/-- the places that count -/
theorem places {x : Ent} (hx : Wf x) (hm : mayE x = true) (r : List Int) : (bytesE x ++ r).getD 0 0 ≤ 127 ∧ (bytesE x ++ r).getD 8 0 ≤ 127 ∧ (bytesE x ++ r).getD 24 0 = x.ten.size ∧
    (bytesE x ++ r).getD (25 + x.ten.size) 0 = x.act ∧ (bytesE x ++ r).getD (26 + x.ten.size) 0 = ((x.status.toNat / 256 : Nat) : Int) ∧ (bytesE x ++ r).getD (27 + x.ten.size) 0 = ((x.status.toNat % 256 : Nat) : Int) := by
  obtain ⟨hok, hs1, ht1, hr0, hr1, _⟩ := hx
  obtain ⟨hs0, ht0, ha0, ha1, hu0, hu1, hten⟩ := may_parts hm
  have l8 : ∀ v, (be 8 v).length = 8 := fun v => be_length 8 v
  have lt : (bytesOf x.ten).length = x.ten.size := bytesOf_length _
  have e24 : ∀ i, (bytesE x ++ r).getD (24 + i) 0 = (((x.ten.size : Int) :: (bytesOf x.ten ++ (be 1 x.act.toNat ++ (be 2 x.status.toNat ++ (x.of ++ r)))))).getD i 0 := by
    intro i
    unfold bytesE
    rw [List.append_assoc, getD_app _ _ _ (by rw [l8]; omega), l8, List.append_assoc, getD_app _ _ _ (by rw [l8]; omega), l8, List.append_assoc, getD_app _ _ _ (by rw [l8]; omega), l8]
    rw [show 24 + i - 8 - 8 - 8 = i by omega]
    simp
  have e25 : ∀ i, (bytesE x ++ r).getD (25 + x.ten.size + i) 0 = (be 1 x.act.toNat ++ (be 2 x.status.toNat ++ (x.of ++ r))).getD i 0 := by
    intro i
    rw [show 25 + x.ten.size + i = 24 + (x.ten.size + i + 1) by omega, e24]
    show (bytesOf x.ten ++ (be 1 x.act.toNat ++ (be 2 x.status.toNat ++ (x.of ++ r)))).getD (x.ten.size + i) 0 = _
    rw [getD_app _ _ _ (by omega), lt]
    congr 1
    omega
  refine ⟨?_, ?_, ?_, ?_, ?_, ?_⟩
  · unfold bytesE
    rw [List.append_assoc, getD_left _ _ _ (by rw [l8]; omega)]
    exact high _ hs0 hs1
  · unfold bytesE
    rw [List.append_assoc, getD_app _ _ _ (by rw [l8]; omega), l8, List.append_assoc, getD_left _ _ _ (by rw [l8]; omega)]
    exact high _ ht0 ht1
  · rw [show 24 = 24 + 0 from rfl, e24]; rfl
  · rw [show 25 + x.ten.size = 25 + x.ten.size + 0 from rfl, e25]
    show ((x.act.toNat / 256 ^ 0 % 256 : Nat) : Int) = x.act
    simp; omega
  · rw [show 26 + x.ten.size = 25 + x.ten.size + 1 by omega, e25]
    show ((x.status.toNat / 256 ^ 1 % 256 : Nat) : Int) = _
    simp; omega
  · rw [show 27 + x.ten.size = 25 + x.ten.size + 2 by omega, e25]
    show ((x.status.toNat / 256 ^ 0 % 256 : Nat) : Int) = _
    simp
theorem good_of {x : Ent} (hx : Wf x) (hm : mayE x = true) (r : List Int) (i : Nat) (hi : i ≤ 59 + x.ten.size) : Eu.Good (bytesE x ++ r) i := by
  obtain ⟨p0, p8, p24, p25, p26, p27⟩ := places hx hm r
  obtain ⟨_, _, _, _, hu0, hu1, hten⟩ := may_parts hm
  have hl : lenN (bytesE x ++ r) = x.ten.size := by unfold lenN; rw [p24]; simp
  refine ⟨fun _ => p0, fun _ => p8, fun _ => ⟨by rw [p24]; omega, by rw [hl]; exact hi, fun _ => by rw [hl, p26]; omega, fun _ => by rw [hl, p26, p27]; omega⟩⟩
theorem val_be_id (v : Int) (n : Nat) (h0 : 0 ≤ v) (h : v.toNat < 256 ^ n) : ((Spc.val 0 (be n v.toNat) : Nat) : Int) = v := by
  rw [val_be, Nat.zero_mul, Nat.zero_add, Nat.mod_eq_of_lt h]; omega
theorem take_whole {x : Ent} (hx : Wf x) (hm : mayE x = true) (r : List Int) : takeOut (bytesE x ++ r) = (x, (((bytesE x).length : Nat) : Int), 0) := by
  have hlen := bytesE_len hx.1
  obtain ⟨p0, p8, p24, p25, p26, p27⟩ := places hx hm r
  have hl : lenN (bytesE x ++ r) = x.ten.size := by unfold lenN; rw [p24]; simp
  have hb : beginsB (bytesE x ++ r) = true := good_full (by rw [hl]; exact good_of hx hm r _ (Nat.le_refl _)) (by rw [hl, List.length_append, hlen]; omega)
  obtain ⟨hok, hs1, ht1, hr0, hr1, _⟩ := hx
  obtain ⟨hs0, ht0, ha0, ha1, hu0, hu1, hten⟩ := may_parts hm
  unfold takeOut
  rw [if_neg (by rw [hb]; simp), if_neg (by rw [List.length_append, hlen]; omega), if_neg (by rw [hl, List.length_append, hlen]; omega), hl, hlen]
  congr 1
  have l8 : ∀ v, (be 8 v).length = 8 := fun v => be_length 8 v
  have lt : (bytesOf x.ten).length = x.ten.size := bytesOf_length _
  have h1 : (1 : Nat) + 2 = 3 := rfl
  unfold entAt
  have e0 : (bytesE x ++ r).take 8 = be 8 x.seq.toNat := by
    unfold bytesE
    rw [List.append_assoc]; exact (congrArg (fun n => List.take n _) (l8 x.seq.toNat).symm).trans List.take_left
  have d8 : (bytesE x ++ r).drop 8 = be 8 x.tick.toNat ++ (be 8 x.serial.toNat ++ ((x.ten.size : Int) :: (bytesOf x.ten ++ (be 1 x.act.toNat ++ (be 2 x.status.toNat ++ x.of)))) ++ r) := by
    unfold bytesE
    rw [List.append_assoc, List.append_assoc]; exact (congrArg (fun n => List.drop n _) (l8 x.seq.toNat).symm).trans List.drop_left
  have e8 : ((bytesE x ++ r).drop 8).take 8 = be 8 x.tick.toNat := by rw [d8]; exact (congrArg (fun n => List.take n _) (l8 x.tick.toNat).symm).trans List.take_left
  have d16 : (bytesE x ++ r).drop 16 = be 8 x.serial.toNat ++ (((x.ten.size : Int) :: (bytesOf x.ten ++ (be 1 x.act.toNat ++ (be 2 x.status.toNat ++ x.of)))) ++ r) := by
    rw [show (16 : Nat) = 8 + 8 from rfl, ← List.drop_drop, d8, List.append_assoc]; exact (congrArg (fun n => List.drop n _) (l8 x.tick.toNat).symm).trans List.drop_left
  have e16 : ((bytesE x ++ r).drop 16).take 8 = be 8 x.serial.toNat := by rw [d16]; exact (congrArg (fun n => List.take n _) (l8 x.serial.toNat).symm).trans List.take_left
  have d25 : (bytesE x ++ r).drop 25 = bytesOf x.ten ++ (be 1 x.act.toNat ++ (be 2 x.status.toNat ++ (x.of ++ r))) := by
    rw [show (25 : Nat) = 16 + (8 + 1) from rfl, ← List.drop_drop, d16, ← List.drop_drop]
    rw [(congrArg (fun n => List.drop n (be 8 x.serial.toNat ++ (((x.ten.size : Int) :: (bytesOf x.ten ++ (be 1 x.act.toNat ++ (be 2 x.status.toNat ++ x.of)))) ++ r))) (l8 x.serial.toNat).symm).trans List.drop_left]
    simp
  have e25 : ((bytesE x ++ r).take (25 + x.ten.size)).drop 25 = bytesOf x.ten := by
    rw [List.drop_take, d25, show 25 + x.ten.size - 25 = (bytesOf x.ten).length by omega]; exact List.take_left
  have e28 : ((bytesE x ++ r).drop (25 + x.ten.size + 3)).take 32 = x.of := by
    unfold Ok at hok
    rw [Nat.add_assoc, ← List.drop_drop, d25, ← lt, ← List.drop_drop, List.drop_left]
    show ((x.of ++ r)).take 32 = x.of
    rw [← hok]; exact List.take_left
  rw [e0, e8, e16, e25, e28, str_bytesOf, p25, show 25 + x.ten.size + 1 = 26 + x.ten.size by omega, show 25 + x.ten.size + 2 = 27 + x.ten.size by omega, p26, p27]
  rw [val_be_id x.seq 8 hs0 (by omega), val_be_id x.tick 8 ht0 (by omega), val_be_id x.serial 8 hr0 (by omega)]
  have hst : ((x.status.toNat / 256 : Nat) : Int) * 256 + ((x.status.toNat % 256 : Nat) : Int) = x.status := by omega
  rw [hst]
theorem take_cut {x : Ent} (hx : Wf x) (hm : mayE x = true) (k : Nat) (hk : k < (bytesE x).length) : takeOut ((bytesE x).take k) = (ent0, 0, 3) := by
  have hlen := bytesE_len hx.1
  have hg := good_of hx hm [] k (by omega)
  rw [List.append_nil] at hg
  have hkl : ((bytesE x).take k).length = k := by rw [List.length_take]; omega
  have gt : ∀ i, i < k → ((bytesE x).take k).getD i 0 = (bytesE x).getD i 0 := fun i hi => by
    rw [List.getD_eq_getElem?_getD, List.getD_eq_getElem?_getD, List.getElem?_take, if_pos hi]
  have p24 := (places hx hm []).2.2.1
  rw [List.append_nil] at p24
  have hl0 : lenN (bytesE x) = x.ten.size := by unfold lenN; rw [p24]; simp
  have hl : 24 < k → lenN ((bytesE x).take k) = x.ten.size := fun h => by unfold lenN; rw [gt 24 h, p24]; simp
  have hG : Eu.Good ((bytesE x).take k) k := by
    obtain ⟨a, b, c⟩ := hg
    refine ⟨fun h => by rw [gt 0 h]; exact a h, fun h => by rw [gt 8 h]; exact b h, fun h => ?_⟩
    obtain ⟨c1, c2, c3, c4⟩ := c h
    rw [hl0] at c2 c3 c4
    rw [hl h]
    exact ⟨by rw [gt 24 h]; exact c1, c2, fun h' => by rw [gt _ h']; exact c3 h', fun h' => by rw [gt _ (by omega), gt _ h']; exact c4 h'⟩
  have hb := good_begins (b := (bytesE x).take k) (by rw [hkl]; exact hG)
  unfold takeOut
  rw [if_neg (by rw [hb]; simp), hkl]
  by_cases h : k ≤ 24
  · rw [if_pos h]
  · rw [if_neg h, if_pos (by rw [hl (by omega)]; omega)]
theorem bytesE_byte {x : Ent} (hx : Wf x) (hm : mayE x = true) : ∀ y ∈ bytesE x, 0 ≤ y ∧ y < 256 := by
  obtain ⟨_, _, _, _, _, _, hten⟩ := may_parts hm
  intro y hy
  unfold bytesE at hy
  simp only [List.mem_append, List.mem_cons] at hy
  rcases hy with h | h | h | h | h | h | h | h
  · exact be_byte _ _ y h
  · exact be_byte _ _ y h
  · exact be_byte _ _ y h
  · omega
  · exact bytesOf_byte _ y h
  · exact be_byte _ _ y h
  · exact be_byte _ _ y h
  · exact hx.2.2.2.2.2 y h
def lightB (l : List Ent) (most : Int) : Bool := decide ((l.length : Int) ≤ most) && l.all fun x => decide (x.ten.size ≤ 100)
theorem upto_next {α : Type} {l : List α} {p : α → Prop} {j : Nat} (h : ∀ i (hi : i < l.length), i < j → p l[i]) (hlt : j < l.length) (hj : p l[j]) : ∀ i (hi : i < l.length), i < j + 1 → p l[i] := by
  intro i hi hij
  rcases Nat.lt_or_ge i j with h1 | h1
  · exact h i hi h1
  · obtain rfl : i = j := by omega
    exact hj
set_option maxHeartbeats 800000 in
theorem light_calls (A : Option Addr) (c : Nat) (l : List Ent) (most : Int) (w : World) (hr : CE w A l) (hc : l.length ≤ c) :
    Calls Try.prog 10 #[.slice A l.length c, .int .i64 most] w fun e w' => e = .returned (.bool (lightB l most)) ∧ Below w.heap.size w w' := by
  have HR := Aside0.mk hr
  have hmx := hr.2.1
  by_cases hl : (l.length : Int) ≤ most
  · have d1 : decide (most < (l.length : Int)) = false := decide_eq_false (by omega)
    clear hr
    go_enter Try.func10, Try.ntmps10
    go_wp2_with fail
    go_loop [5] (fun u => ∃ j : Nat, j ≤ l.length ∧ u = .int .i64 j ∧ Aside0 (∀ i (hi : i < l.length), i < j → l[i].ten.size ≤ 100)) (fun u => l.length - (intOf u).toNat)
    case atStart => exact ⟨0, by omega, rfl, ⟨fun i _ hi => absurd hi (by omega)⟩⟩
    case round =>
      obtain ⟨j, hj, rfl, HJ⟩ := hrel
      by_cases hlt : j < l.length
      · obtain ⟨ad, rfl, _, hn, _⟩ := ent_at HR.out j hlt
        have hn3 : w.cell? { block := (ad.add (j * 38)).block, off := (ad.add (j * 38)).off + 3 } = some (.string l[j].ten) := by
          have := hn 3 _ rfl
          rw [← Go.Deep.add_add] at this
          exact this
        have HN := Aside0.mk hn
        by_cases hs : l[j].ten.size ≤ 100
        · have d2 : decide (100 < (l[j].ten.size : Int)) = false := decide_eq_false (by omega)
          clear hn
          go_wp2_with fail
          go_round
          case rel => exact ⟨j + 1, by omega, by go_num, ⟨upto_next (p := fun x => x.ten.size ≤ 100) HJ.out hlt hs⟩⟩
          case measure => simp [intOf]; omega
        · have d2 : decide (100 < (l[j].ten.size : Int)) = true := decide_eq_true (by omega)
          have hno : Aside0 (lightB l most = false) := ⟨by
            unfold lightB
            rw [Bool.and_eq_false_iff, List.all_eq_false]
            exact .inr ⟨l[j], List.getElem_mem hlt, by simpa using hs⟩⟩
          clear hn
          go_wp2_with fail
          go_ret
          exact ⟨by rw [hno.out]; rfl, Below.refl _ _⟩
      · obtain rfl : j = l.length := by omega
        have hyes : Aside0 (lightB l most = true) := ⟨by
          unfold lightB
          rw [Bool.and_eq_true, List.all_eq_true]
          refine ⟨decide_eq_true hl, fun x hx => ?_⟩
          obtain ⟨i, hi, rfl⟩ := List.mem_iff_getElem.1 hx
          exact decide_eq_true (HJ.out i hi hi)⟩
        go_wp2_with fail
        go_ret
        exact ⟨by rw [hyes.out]; rfl, Below.refl _ _⟩
  · have d1 : decide (most < (l.length : Int)) = true := decide_eq_true (by omega)
    have hno : Aside0 (lightB l most = false) := ⟨by unfold lightB; rw [decide_eq_false hl]; rfl⟩
    clear hr hl
    go_enter Try.func10, Try.ntmps10
    go_wp2_with fail
    go_ret
    exact ⟨by rw [hno.out]; rfl, Below.refl _ _⟩
end Go.Proofs.Ytgpgblidplmchaa.Ek
