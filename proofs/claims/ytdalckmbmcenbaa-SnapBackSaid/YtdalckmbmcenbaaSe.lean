/- A manifest is equal to itself. -/
import Derived.Test.YtdalckmbmcenbaaSp
import Derived.Test.YtdalckmbmcenbaaWEqStruct
namespace Go.Proofs.Ytdalckmbmcenbaa.Se
open Go.RowKit Go.Proofs.YtdalckmbmcenbaaW.PrintWords
open Sn Ag Spc Sb St Sr Sp
set_option linter.unusedVariables false
set_option linter.unusedSimpArgs false
theorem array_self {P : Program} (w : World) (d : Nat) (t e : TypeId) (n : Nat) (ht : P.underlying t = some (.array n e)) (he : P.underlying e = some (.int .u8)) (hsz : ∀ w, (sizeOf e).run P w = .ok 1 w)
    (xs : List Int) (hx : xs.length = n) :
    (Op.equalIn (d + 2) t (.agg (nums .u8 xs).toArray) (.agg (nums .u8 xs).toArray)).run P w = .ok true w := by
  rw [Op.equalIn]
  simp only [Sem.run_bind, run_underlying ht, Result.andThen_ok, hsz, Std.Legacy.Range.forIn_eq_forIn_range', Std.Legacy.Range.size, Nat.sub_zero, Nat.add_sub_cancel, Nat.div_one]
  have hl : ∀ i ∈ List.range' 0 n 1, i < n := fun i hi => by simpa using (List.mem_range'_1.1 hi).2
  generalize List.range' 0 n 1 = l at hl ⊢
  induction l with
  | nil => simp
  | cons i l ih =>
    have hi : i < n := hl i (by simp)
    have px : (part e (nums .u8 xs).toArray (i * 1)).run P w = .ok (.int .u8 (xs.getD i 0)) w := by
      simp [part, isAgg, run_underlying he, nums, List.getD, List.getElem?_eq_getElem (show i < xs.length by omega)]
    have pe : (Op.equalIn (d + 1) e (.int .u8 (xs.getD i 0)) (.int .u8 (xs.getD i 0))).run P w = .ok true w := by
      rw [run_equalIn_int w d e .u8 .u8 _ _ he]; simp
    simp only [List.forIn_cons, Sem.run_bind, px, pe, Result.andThen_ok]
    simp only [Bool.not_true, Bool.false_eq_true, if_false, Sem.run_pure, Result.andThen_ok]
    exact ih fun j hj => hl j (by simp [hj])
theorem man_self (r : List Int) (t : Int) (s : ByteArray) (hr : r.length = 32) (w : World) :
    (binOp .eql 25 (.agg (man r t s)) (.agg (man r t s))).run Try.prog w = .ok (.bool true) w := by
  rw [run_eql_struct]
  have h := eqA_of (P := Try.prog) (d := 9999) (t := 25) (xs := man r t s) (ys := man r t s) (r := true) (w := w) Try.underlying25 (by kernel_rfl) ?_
  · rw [h]; rfl
  · have p0 : (part 23 (man r t s) 0).run Try.prog w = .ok (.agg (nums .u8 r).toArray) w := by
      obtain ⟨it, hi, hz⟩ := Option.map_eq_some_iff.1 info23s
      have hz' : it.size = 32 := hz
      have hx : (man r t s).extract 0 32 = (nums .u8 r).toArray := by
        unfold man
        rw [List.extract_toArray]
        congr 1
        have h32 : (nums .u8 r).length = 32 := by simp [nums, hr]
        simp [List.extract, List.take_append, h32]
      simp [part, isAgg, run_underlying info22, sizeOf, typeInfo, hi, hz', hx]
    have p1 : (part 2 (man r t s) 32).run Try.prog w = .ok (.int .i64 t) w := by
      simp [part, isAgg, run_underlying Try.underlying2, man_time r t s hr]
    have p2 : (part 9 (man r t s) 33).run Try.prog w = .ok (.string s) w := by
      simp [part, isAgg, run_underlying Try.underlying9, man_label r t s hr]
    refine eqf_cons (r := true) (s := true) (by rfl) p0 p0 (array_self w 9997 23 5 32 info22 Try.underlying5 ?_ r hr) ?_
    · intro w
      obtain ⟨it, hi, hz⟩ := Option.map_eq_some_iff.1 POct.info5
      simp only [Prod.mk.injEq] at hz
      simp [sizeOf, typeInfo, hi, hz.2.1]
    refine eqf_cons (r := true) (s := true) (by rfl) p1 p1 ?_ ?_
    · rw [run_equalIn_int w 9998 2 .i64 .i64 _ _ Try.underlying2]; simp
    refine eqf_last (by rfl) p2 p2 ?_
    rw [run_equalIn_string w 9998 9 _ _ Try.underlying9]; simp
theorem manB_len (r : List Int) (t : Int) (s : ByteArray) (hr : r.length = 32) (hm : mayB t s = true) : (manB r t s).length = 43 + s.size := by
  have h64 := (may_parts hm).2.1
  unfold manB
  rw [leb_small (by omega)]
  simp [hr, be_length, bytesOf]
  omega
theorem manB_at (r : List Int) (t : Int) (s : ByteArray) (hr : r.length = 32) (hm : mayB t s = true) : (manB r t s)[42]? = some (s.size : Int) := by
  have h64 := (may_parts hm).2.1
  have h := manB_drop r hr t s
  rw [leb_small (by omega)] at h
  have := congrArg (·[0]?) h
  simpa using this
theorem isB_at {b : List Int} (h : isB b) : b[42]? = some ((b.length : Int) - 43) := by
  obtain ⟨h1, h2, h3⟩ := h
  have := manB_at (rootOf b) _ _ (rootOf_len b (by omega)) h2
  rw [h3, strOfNums_size] at this
  rw [this]; simp; omega
theorem isB_man (r : List Int) (t : Int) (s : ByteArray) (hr : r.length = 32) (ht : t ≤ 9223372036854775807) (hm : mayB t s = true) :
    isB (manB r t s) ∧ rootOf (manB r t s) = r ∧ timeOf (manB r t s) = t ∧ strOfNums ((manB r t s).drop 43) = s := by
  obtain ⟨h0, h64, _⟩ := may_parts hm
  have hlen := manB_len r t s hr hm
  have hd : (manB r t s).drop 43 = bytesOf s := by
    rw [show (manB r t s).drop 43 = ((manB r t s).drop 42).drop 1 by rw [List.drop_drop], manB_drop r hr t s, leb_small (by omega)]; rfl
  have hroot : rootOf (manB r t s) = r := by
    unfold rootOf manB
    have : ([83, 49] ++ r).length = 34 := by simp [hr]
    rw [List.append_assoc, List.append_assoc ([83, 49] ++ r), ← this, List.take_left]; rfl
  have htime : timeOf (manB r t s) = t := by
    unfold timeOf manB
    have h1 : ([83, 49] ++ r).length = 34 := by simp [hr]
    have h2 : (be 8 t.toNat).length = 8 := be_length _ _
    rw [List.append_assoc, List.append_assoc ([83, 49] ++ r), ← h1, List.drop_left, List.take_append_of_le_length (by omega), List.take_of_length_le (by omega), val_be]
    have : (256 : Nat) ^ 8 = 18446744073709551616 := by decide
    rw [this]; omega
  have hw : wrap64 t = t := w64_id (by omega) (by omega)
  refine ⟨⟨by omega, ?_, ?_⟩, hroot, htime, by rw [hd, str_bytesOf]⟩
  · rw [htime, hw, hd, str_bytesOf]; exact hm
  · rw [hroot, htime, hw, hd, str_bytesOf]
end Go.Proofs.Ytdalckmbmcenbaa.Se
