/- Words below 2^32: the document's turns and numbers are the program's. The document's block: the state behind sixteen words. Words of four bytes, made byte by byte. -/
import Derived.Test.YtgpgblidplmchaaSb
namespace Go.Proofs.Ytgpgblidplmchaa.Sq
open Go.RowKit Go.Proofs.YtgpgblidplmchaaW.PrintWords Go.Proofs.YtgpgblidplmchaaW.PrintLast Go.Proofs.YtgpgblidplmchaaW.PrintMore
open Ag POct Sw Sk Sm Sx
set_option linter.unusedVariables false
set_option linter.unusedSimpArgs false
set_option maxRecDepth 100000
def U (x : Int) : Prop := 0 ≤ x ∧ x < 4294967296
theorem U.nat {x : Int} (h : U x) : ∃ n : Nat, x = n ∧ n < 4294967296 := ⟨x.toNat, by have := h.1; omega, by have := h.1; have := h.2; omega⟩
theorem xor_is {x y : Int} (hx : U x) (hy : U y) : bits .xor .u64 x y = bits .xor .u32 x y ∧ U (bits .xor .u32 x y) := by
  obtain ⟨n, rfl, hn⟩ := hx.nat
  obtain ⟨m, rfl, hm⟩ := hy.nat
  have := Nat.xor_lt_two_pow (n := 32) hn hm
  rw [u64_xor_nat _ _ (by omega) (by omega), u32_xor_nat _ _ hn hm]
  exact ⟨rfl, by unfold U; omega⟩
theorem and_is {x y : Int} (hx : U x) (hy : U y) : bits .and .u64 x y = bits .and .u32 x y ∧ U (bits .and .u32 x y) := by
  obtain ⟨n, rfl, hn⟩ := hx.nat
  obtain ⟨m, rfl, hm⟩ := hy.nat
  have := Nat.and_lt_two_pow n (n := 32) hm
  rw [u64_and_nat _ _ (by omega) (by omega), u32_and_nat _ _ hn hm]
  exact ⟨rfl, by unfold U; omega⟩
theorem mask_is {y : Int} (h : 0 ≤ y) (h2 : y < 18446744073709551616) : bits .and .u64 y 4294967295 = y % 4294967296 := by
  obtain ⟨n, rfl⟩ := Int.eq_ofNat_of_zero_le h
  have := u64_and_nat n 4294967295 (by omega) (by omega)
  rw [show ((4294967295 : Nat) : Int) = 4294967295 from rfl] at this
  rw [this, show n &&& 4294967295 = n % 4294967296 from Nat.and_two_pow_sub_one_eq_mod n 32]
  omega
theorem not_is {x : Int} (hx : U x) : (4294967295 - x) = bits .xor .u32 IntKind.u32.max x ∧ U (bits .xor .u32 IntKind.u32.max x) := by
  obtain ⟨n, rfl, hn⟩ := hx.nat
  have e : (4294967295 : Nat) ^^^ n = 4294967295 - n := by
    have h : (BitVec.allOnes 32 ^^^ BitVec.ofNat 32 n).toNat = (~~~ (BitVec.ofNat 32 n)).toNat := by rw [BitVec.allOnes_xor]
    rw [BitVec.toNat_xor, BitVec.toNat_not, BitVec.toNat_allOnes, BitVec.toNat_ofNat, Nat.mod_eq_of_lt hn] at h
    exact h
  have := u32_xor_nat 4294967295 n (by omega) hn
  rw [show IntKind.u32.max = ((4294967295 : Nat) : Int) from rfl, this, e]
  exact ⟨by omega, by unfold U; omega⟩
theorem rot_is (m x : Nat) (hm : m ≤ 32) (hx : x < 4294967296) : rot m (x : Int) = ((x % 2 ^ (32 - m) * 2 ^ m + x / 2 ^ (32 - m) : Nat) : Int) := by
  have e32 : (2 : Nat) ^ (32 - m) * 2 ^ m = 4294967296 := by rw [← Nat.pow_add, show 32 - m + m = 32 from by omega]
  have hp : 0 < (2 : Nat) ^ (32 - m) := Nat.two_pow_pos _
  have hq : 0 < (2 : Nat) ^ m := Nat.two_pow_pos _
  have h1 : shl .u32 (x : Int) (m : Int) = ((x % 2 ^ (32 - m) * 2 ^ m : Nat) : Int) := by
    unfold shl
    rw [Int.toNat_natCast, show min m IntKind.u32.bits = m from Nat.min_eq_left hm, IntKind.wrap_u32', ← Nat.mul_mod_mul_right, e32]
    simp
  have h2 : shr .u32 (x : Int) (32 - m : Int) = ((x / 2 ^ (32 - m) : Nat) : Int) := by
    unfold shr
    rw [show ((32 : Int) - (m : Int)).toNat = 32 - m from by omega, show min (32 - m) IntKind.u32.bits = 32 - m from Nat.min_eq_left (by show 32 - m ≤ 32; omega)]
    simp
  have ha : x % 2 ^ (32 - m) * 2 ^ m < 4294967296 := by
    rw [← e32]
    exact Nat.mul_lt_mul_of_pos_right (Nat.mod_lt _ hp) hq
  have hb : x / 2 ^ (32 - m) < 2 ^ m := Nat.div_lt_of_lt_mul (by rw [e32]; exact hx)
  have hb2 : x / 2 ^ (32 - m) < 4294967296 := Nat.lt_of_le_of_lt (Nat.div_le_self _ _) hx
  unfold rot
  rw [h1, h2, u32_or_nat _ _ ha hb2, nat_join m _ _ (Nat.mul_mod_left ..) hb]
theorem rot_U {m : Nat} {x : Int} (hm : m ≤ 32) (hx : U x) : U (rot m x) := by
  obtain ⟨n, rfl, hn⟩ := hx.nat
  have e32 : (2 : Nat) ^ (32 - m) * 2 ^ m = 4294967296 := by rw [← Nat.pow_add, show 32 - m + m = 32 from by omega]
  have hb : n / 2 ^ (32 - m) < 2 ^ m := Nat.div_lt_of_lt_mul (by rw [e32]; exact hn)
  have ha : (n % 2 ^ (32 - m) + 1) * 2 ^ m ≤ 4294967296 := by
    rw [← e32]
    exact Nat.mul_le_mul_right _ (Nat.mod_lt _ (Nat.two_pow_pos _))
  rw [Nat.add_mul] at ha
  rw [rot_is m n hm hn]
  generalize n % 2 ^ (32 - m) * 2 ^ m = a at ha ⊢
  generalize n / 2 ^ (32 - m) = d at hb ⊢
  generalize 2 ^ m = c at ha hb
  unfold U
  omega
/-- i bits turned to the right -/
def tn (x i : Nat) : Nat := x % 2 ^ i * 2 ^ (32 - i) + x / 2 ^ i
theorem tn_lt {x i : Nat} (hx : x < 4294967296) (hi : i ≤ 32) : tn x i < 4294967296 := by
  have := rot_U (m := 32 - i) (x := x) (by omega) ⟨by omega, by omega⟩
  rw [rot_is _ _ (by omega) hx, show 32 - (32 - i) = i from by omega] at this
  unfold U at this
  unfold tn
  omega
theorem tn_succ {x i : Nat} (hx : x < 4294967296) (hi : i < 32) : tn x i / 2 + tn x i % 2 * 2147483648 = tn x (i + 1) := by
  unfold tn
  obtain ⟨b, hb⟩ : ∃ b, b = 2 ^ (31 - i) := ⟨_, rfl⟩
  have e1 : (2 : Nat) ^ (32 - i) = 2 * b := by rw [hb, show 32 - i = (31 - i) + 1 from by omega, Nat.pow_succ]; omega
  have e2 : (2 : Nat) ^ (32 - (i + 1)) = b := by rw [hb, show 32 - (i + 1) = 31 - i from by omega]
  have e3 : (2 : Nat) ^ i * b = 2147483648 := by rw [hb, ← Nat.pow_add, show i + (31 - i) = 31 from by omega]
  rw [e1, e2, Nat.pow_succ, Nat.mod_mul, ← Nat.div_div_eq_div_mul]
  generalize x / 2 ^ i = d
  generalize x % 2 ^ i = r
  rw [show r * (2 * b) + d = 2 * (r * b) + d from by rw [Nat.mul_left_comm], Nat.add_mul, show 2 ^ i * (d % 2) * b = (d % 2) * 2147483648 from by rw [Nat.mul_right_comm, e3, Nat.mul_comm]]
  generalize r * b = z
  omega
theorem turn_l0 (x n : Nat) (hx : x < 4294967296) (hn : n ≤ 32) : ∀ j i, i + j = n → cofferref2_turn.l0 (j + 1) (tn x i : Nat) n i = some ((tn x n : Nat) : Int) := by
  intro j
  induction j with
  | zero =>
    intro i h
    obtain rfl : i = n := by omega
    unfold cofferref2_turn.l0
    rw [if_neg (by omega)]
  | succ j ih =>
    intro i h
    have hl := tn_lt hx (show i ≤ 32 by omega)
    have hs := tn_succ hx (show i < 32 by omega)
    have hl2 := tn_lt hx (show i + 1 ≤ 32 by omega)
    unfold cofferref2_turn.l0
    rw [if_pos (by omega)]
    have e : IntKind.u64.wrap ((IntKind.u64.wrap (Int.tdiv (tn x i : Nat) 2)) + (IntKind.u64.wrap ((Int.tmod (tn x i : Nat) 2) * 2147483648))) = ((tn x (i + 1) : Nat) : Int) := by
      rw [Int.tdiv_eq_ediv_of_nonneg (by omega), Int.tmod_eq_emod_of_nonneg (by omega)]
      simp only [IntKind.wrap_u64]
      omega
    have e2 : wrap64 ((i : Int) + 1) = ((i + 1 : Nat) : Int) := by unfold wrap64; omega
    rw [e, e2]
    exact ih (i + 1) (by omega)
theorem down_l0 (x n : Nat) (hx : x < 4294967296) (hn : n ≤ 32) : ∀ j i, i + j = n → cofferref2_down.l0 (j + 1) (x / 2 ^ i : Nat) n i = some ((x / 2 ^ n : Nat) : Int) := by
  intro j
  induction j with
  | zero =>
    intro i h
    obtain rfl : i = n := by omega
    unfold cofferref2_down.l0
    rw [if_neg (by omega)]
  | succ j ih =>
    intro i h
    have hl : x / 2 ^ i < 4294967296 := Nat.lt_of_le_of_lt (Nat.div_le_self _ _) hx
    have hs : x / 2 ^ i / 2 = x / 2 ^ (i + 1) := by rw [Nat.div_div_eq_div_mul, Nat.pow_succ]
    unfold cofferref2_down.l0
    rw [if_pos (by omega)]
    have e : IntKind.u64.wrap (Int.tdiv (x / 2 ^ i : Nat) 2) = ((x / 2 ^ (i + 1) : Nat) : Int) := by
      rw [← hs]
      generalize x / 2 ^ i = d at hl ⊢
      rw [Int.tdiv_eq_ediv_of_nonneg (by omega)]
      simp only [IntKind.wrap_u64]
      omega
    have e2 : wrap64 ((i : Int) + 1) = ((i + 1 : Nat) : Int) := by unfold wrap64; omega
    rw [e, e2]
    exact ih (i + 1) (by omega)
theorem turn_f {x : Int} (hx : U x) (n : Nat) (hn : n ≤ 32) : cofferref2_turn.f (n + 1) x n = some (rot (32 - n) x) := by
  obtain ⟨m, rfl, hm⟩ := hx.nat
  have := turn_l0 m n hm hn n 0 (by omega)
  unfold cofferref2_turn.f
  rw [show tn m 0 = m from by unfold tn; simp [Nat.mod_one]] at this
  rw [show ((0 : Nat) : Int) = 0 from rfl] at this
  rw [this, rot_is _ _ (by omega) hm, show 32 - (32 - n) = n from by omega]
  rfl
theorem down_f {x : Int} (hx : U x) (n : Nat) (hn : n ≤ 32) : cofferref2_down.f (n + 1) x n = some (x / 2 ^ n) := by
  obtain ⟨m, rfl, hm⟩ := hx.nat
  have := down_l0 m n hm hn n 0 (by omega)
  unfold cofferref2_down.f
  rw [show m / 2 ^ 0 = m from by simp] at this
  rw [show ((0 : Nat) : Int) = 0 from rfl] at this
  rw [this]
  simp
theorem turn_calls {x : Int} (hx : U x) (n : Nat) (hn : n ≤ 32) (w : World) : Calls Try.prog 55 #[.int .u64 x, .int .i64 n] w fun e w' => e = .returned (.int .u64 (rot (32 - n) x)) ∧ Drawn0 w w' :=
  cofferref2_turn.calls (n + 1) x n _ w (turn_f hx n hn)
theorem down_calls {x : Int} (hx : U x) (n : Nat) (hn : n ≤ 32) (w : World) : Calls Try.prog 56 #[.int .u64 x, .int .i64 n] w fun e w' => e = .returned (.int .u64 (x / 2 ^ n)) ∧ Drawn0 w w' :=
  cofferref2_down.calls (n + 1) x n _ w (down_f hx n hn)
end Go.Proofs.Ytgpgblidplmchaa.Sq
namespace Go.Proofs.Ytgpgblidplmchaa.Srb
open Go.RowKit Go.Proofs.YtgpgblidplmchaaW.PrintWords Go.Proofs.YtgpgblidplmchaaW.PrintLast Go.Proofs.YtgpgblidplmchaaW.PrintMore
open Ag POct Sw Sk Sm Sx Sq
set_option linter.unusedVariables false
set_option linter.unusedSimpArgs false
set_option maxRecDepth 100000
def zero83 : List Int := List.replicate 8 0
theorem z83 : (Try.prog.info? 83).map (·.zero) = some (some (.agg (nums .u64 zero83).toArray)) := by kernel_rfl
theorem sz83 : (Try.prog.info? 83).map (·.size) = some 8 := by kernel_rfl
theorem z81 : (Try.prog.info? 81).map (·.zero) = some (some (.agg (nums .u64 (List.replicate 64 0)).toArray)) := by kernel_rfl
theorem sz81 : (Try.prog.info? 81).map (·.size) = some 64 := by kernel_rfl
/-- the words that follow -/
def ext (L : List Int) : Nat → List Int
  | 0 => L
  | p + 1 => ext L p ++ [nextw (ext L p)]
def blk (st W0 : List Int) : List Int := Sx.part (rounds (ext W0 48) st 64) st 8
theorem t7 {x : Int} (hx : U x) (w : World) : Calls Try.prog 55 #[.int .u64 x, .int .i64 7] w fun e w' => e = .returned (.int .u64 (rot 25 x)) ∧ Drawn0 w w' := turn_calls hx 7 (by decide) w
theorem t18 {x : Int} (hx : U x) (w : World) : Calls Try.prog 55 #[.int .u64 x, .int .i64 18] w fun e w' => e = .returned (.int .u64 (rot 14 x)) ∧ Drawn0 w w' := turn_calls hx 18 (by decide) w
theorem t17 {x : Int} (hx : U x) (w : World) : Calls Try.prog 55 #[.int .u64 x, .int .i64 17] w fun e w' => e = .returned (.int .u64 (rot 15 x)) ∧ Drawn0 w w' := turn_calls hx 17 (by decide) w
theorem t19 {x : Int} (hx : U x) (w : World) : Calls Try.prog 55 #[.int .u64 x, .int .i64 19] w fun e w' => e = .returned (.int .u64 (rot 13 x)) ∧ Drawn0 w w' := turn_calls hx 19 (by decide) w
theorem t6 {x : Int} (hx : U x) (w : World) : Calls Try.prog 55 #[.int .u64 x, .int .i64 6] w fun e w' => e = .returned (.int .u64 (rot 26 x)) ∧ Drawn0 w w' := turn_calls hx 6 (by decide) w
theorem t11 {x : Int} (hx : U x) (w : World) : Calls Try.prog 55 #[.int .u64 x, .int .i64 11] w fun e w' => e = .returned (.int .u64 (rot 21 x)) ∧ Drawn0 w w' := turn_calls hx 11 (by decide) w
theorem t25 {x : Int} (hx : U x) (w : World) : Calls Try.prog 55 #[.int .u64 x, .int .i64 25] w fun e w' => e = .returned (.int .u64 (rot 7 x)) ∧ Drawn0 w w' := turn_calls hx 25 (by decide) w
theorem t2 {x : Int} (hx : U x) (w : World) : Calls Try.prog 55 #[.int .u64 x, .int .i64 2] w fun e w' => e = .returned (.int .u64 (rot 30 x)) ∧ Drawn0 w w' := turn_calls hx 2 (by decide) w
theorem t13 {x : Int} (hx : U x) (w : World) : Calls Try.prog 55 #[.int .u64 x, .int .i64 13] w fun e w' => e = .returned (.int .u64 (rot 19 x)) ∧ Drawn0 w w' := turn_calls hx 13 (by decide) w
theorem t22 {x : Int} (hx : U x) (w : World) : Calls Try.prog 55 #[.int .u64 x, .int .i64 22] w fun e w' => e = .returned (.int .u64 (rot 10 x)) ∧ Drawn0 w w' := turn_calls hx 22 (by decide) w
theorem d3 {x : Int} (hx : U x) (w : World) : Calls Try.prog 56 #[.int .u64 x, .int .i64 3] w fun e w' => e = .returned (.int .u64 (x / 8)) ∧ Drawn0 w w' := down_calls hx 3 (by decide) w
theorem d10 {x : Int} (hx : U x) (w : World) : Calls Try.prog 56 #[.int .u64 x, .int .i64 10] w fun e w' => e = .returned (.int .u64 (x / 1024)) ∧ Drawn0 w w' := down_calls hx 10 (by decide) w
structure BL (w W : World) (b3 b4 b5 b6 : Nat) (st L : List Int) : Prop where
  below : Below w.heap.size w W
  r3 : Rw .u64 83 W b3 st
  r4 : Rw .u64 81 W b4 (pad64 L)
  r5 : Rw .u64 81 W b5 keyL
  r6 : Rw .u64 83 W b6 zero83
  ne : (b3 ≠ b4 ∧ b3 ≠ b5 ∧ b3 ≠ b6 ∧ b4 ≠ b5 ∧ b4 ≠ b6 ∧ b5 ≠ b6) ∧ w.heap.size ≤ b3 ∧ w.heap.size ≤ b4 ∧ w.heap.size ≤ b5 ∧ w.heap.size ≤ b6
theorem BL.start (w : World) (st W0 : List Int) : BL w ((((w.alloc (Obj.cells (nums IntKind.u64 st).toArray 83)).alloc (Obj.cells (nums IntKind.u64 (pad64 W0)).toArray 81)).alloc (Obj.cells (nums IntKind.u64 keyL).toArray 81)).alloc (Obj.cells (nums IntKind.u64 zero83).toArray 83)) w.heap.size (w.heap.size + 1) (w.heap.size + 1 + 1) (w.heap.size + 1 + 1 + 1) st W0 := by
  have e1 := size_alloc w (Obj.cells (nums IntKind.u64 st).toArray 83)
  generalize hA : w.alloc (Obj.cells (nums IntKind.u64 st).toArray 83) = A at e1 ⊢
  have e2 := size_alloc A (Obj.cells (nums IntKind.u64 (pad64 W0)).toArray 81)
  generalize hB : A.alloc (Obj.cells (nums IntKind.u64 (pad64 W0)).toArray 81) = B at e2 ⊢
  have e3 := size_alloc B (Obj.cells (nums IntKind.u64 keyL).toArray 81)
  generalize hC : B.alloc (Obj.cells (nums IntKind.u64 keyL).toArray 81) = C at e3 ⊢
  have hA3 : Rw .u64 83 A w.heap.size st := by rw [← hA]; exact alloc_Rw w st
  have hB4 : Rw .u64 81 B (w.heap.size + 1) (pad64 W0) := by rw [← hB, ← e1]; exact alloc_Rw A _
  have hC5 : Rw .u64 81 C (w.heap.size + 1 + 1) keyL := by rw [← hC, ← e1, ← e2]; exact alloc_Rw B _
  have bAB : Below A.heap.size A B := by rw [← hB]; exact (Below.refl _ _).alloc (Nat.le_refl _) _
  have bBC : Below B.heap.size B C := by rw [← hC]; exact (Below.refl _ _).alloc (Nat.le_refl _) _
  have bCD : Below C.heap.size C (C.alloc (Obj.cells (nums IntKind.u64 zero83).toArray 83)) := (Below.refl _ _).alloc (Nat.le_refl _) _
  have bw : Below w.heap.size w A := by rw [← hA]; exact (Below.refl _ _).alloc (Nat.le_refl _) _
  refine ⟨((bw.trans (bAB.mono (by omega))).trans (bBC.mono (by omega))).trans (bCD.mono (by omega)), ((hA3.below bAB (by omega)).below bBC (by omega)).below bCD (by omega), (hB4.below bBC (by omega)).below bCD (by omega), hC5.below bCD (by omega), ?_, by omega⟩
  rw [← e1, ← e2, ← e3]
  exact alloc_Rw C _
theorem BL.drew {w W : World} {b3 b4 b5 b6 : Nat} {st L : List Int} (h : BL w W b3 b4 b5 b6 st L) (n : Nat) : BL w (W.drewN n) b3 b4 b5 b6 st L := ⟨pw_below_drewN h.below n, h.r3, h.r4, h.r5, h.r6, h.ne⟩
theorem get_U {L : List Int} (h : ∀ x ∈ L, U x) {m : Nat} {x : Int} (hx : L.getD m 0 = x) (hm : m < L.length) : U x := by
  rw [← hx, List.getD_eq_getElem?_getD, List.getElem?_eq_getElem hm]
  exact h _ (List.getElem_mem hm)
theorem nextw_U (L : List Int) : U (nextw L) := by
  unfold nextw add
  rw [IntKind.wrap_u32']
  unfold U
  omega
theorem next_U {L : List Int} (h : ∀ x ∈ L, U x) : ∀ x ∈ L ++ [nextw L], U x := by
  intro x hx
  rcases List.mem_append.1 hx with hx | hx
  · exact h x hx
  · rw [List.mem_singleton.1 hx]; exact nextw_U L
theorem div_U {x : Int} (hx : U x) (k : Nat) : U (x / 2 ^ k) := by
  obtain ⟨n, rfl, hn⟩ := hx.nat
  have := Nat.div_le_self n (2 ^ k)
  have e : (n : Int) / 2 ^ k = ((n / 2 ^ k : Nat) : Int) := by simp
  rw [e]
  generalize n / 2 ^ k = d at this ⊢
  unfold U
  omega
theorem ref_next (L : List Int) (n m15 m2 m16 m7 : Nat) (x15 x2 x16 x7 : Int) (hn : L.length = n) (hm : n = m15 + 15 ∧ n = m2 + 2 ∧ n = m16 + 16 ∧ n = m7 + 7) (h15 : L.getD m15 0 = x15) (h2 : L.getD m2 0 = x2) (h16 : L.getD m16 0 = x16) (h7 : L.getD m7 0 = x7) (hU : U x15 ∧ U x2 ∧ U x16 ∧ U x7) :
    bits .and .u64 (IntKind.u64.wrap (IntKind.u64.wrap (IntKind.u64.wrap (x16 + (bits .xor .u64 (bits .xor .u64 (rot 25 x15) (rot 14 x15)) (x15 / 8))) + x7) + (bits .xor .u64 (bits .xor .u64 (rot 15 x2) (rot 13 x2)) (x2 / 1024)))) 4294967295 = nextw L := by
  obtain ⟨u15, u2, u16, u7⟩ := hU
  rw [← next_is L n m15 m2 m16 m7 x15 x2 x16 x7 hn hm h15 h2 h16 h7]
  obtain ⟨a1, a2⟩ := xor_is (rot_U (m := 25) (by decide) u15) (rot_U (m := 14) (by decide) u15)
  obtain ⟨a3, a4⟩ := xor_is a2 (div_U u15 3)
  obtain ⟨c1, c2⟩ := xor_is (rot_U (m := 15) (by decide) u2) (rot_U (m := 13) (by decide) u2)
  obtain ⟨c3, c4⟩ := xor_is c2 (div_U u2 10)
  rw [show (2 : Int) ^ 3 = 8 from rfl] at a3 a4
  rw [show (2 : Int) ^ 10 = 1024 from rfl] at c3 c4
  rw [a1, a3, c1, c3]
  generalize bits .xor .u32 (bits .xor .u32 (rot 25 x15) (rot 14 x15)) (x15 / 8) = s at a4 ⊢
  generalize bits .xor .u32 (bits .xor .u32 (rot 15 x2) (rot 13 x2)) (x2 / 1024) = t at c4 ⊢
  simp only [IntKind.wrap_u64, IntKind.wrap_u32']
  rw [mask_is (by omega) (by omega)]
  omega
theorem BL.next {w W : World} {b3 b4 b5 b6 n : Nat} {st L : List Int} {v : Int} (h : BL w W b3 b4 b5 b6 st L) (hl : L.length = n) (hn : n < 64) (hv : v = nextw L) : BL w (W.setCell ⟨b4, n, none⟩ (.int .u64 v)) b3 b4 b5 b6 st (L ++ [nextw L]) := by
  have k : ∀ q, q ≠ b4 → (W.setCell ⟨b4, n, none⟩ (.int .u64 v)).heap[q]? = W.heap[q]? := fun q hq => Below.heap_setCell W ⟨b4, n, none⟩ _ q hq
  obtain ⟨⟨n1, n2, n3, n4, n5, n6⟩, l3, l4, l5, l6⟩ := h.ne
  exact ⟨h.below.setCell l4 _, (k _ n1).trans h.r3, by rw [← hv, ← pad64_set L _ (by omega), hl]; exact h.r4.set n v, (k _ (Ne.symm n4)).trans h.r5, (k _ (Ne.symm n5)).trans h.r6, h.ne⟩
structure BM (w W : World) (b3 b4 b5 b6 b12 : Nat) (s3 L v : List Int) : Prop where
  below : Below w.heap.size w W
  r3 : Rw .u64 83 W b3 s3
  r4 : Rw .u64 81 W b4 L
  r5 : Rw .u64 81 W b5 keyL
  r6 : Rw .u64 83 W b6 zero83
  r12 : Rw .u64 83 W b12 v
  ne : (b3 ≠ b6 ∧ b3 ≠ b12 ∧ b4 ≠ b12 ∧ b5 ≠ b12 ∧ b6 ≠ b12 ∧ b4 ≠ b3 ∧ b5 ≠ b3) ∧ w.heap.size ≤ b3 ∧ w.heap.size ≤ b6 ∧ w.heap.size ≤ b12
theorem BM.drew {w W : World} {b3 b4 b5 b6 b12 : Nat} {s3 L v : List Int} (h : BM w W b3 b4 b5 b6 b12 s3 L v) (n : Nat) : BM w (W.drewN n) b3 b4 b5 b6 b12 s3 L v := ⟨pw_below_drewN h.below n, h.r3, h.r4, h.r5, h.r6, h.r12, h.ne⟩
theorem pad64_full {L : List Int} (h : L.length = 64) : pad64 L = L := by unfold pad64; rw [h]; simp
theorem BL.made {w W W2 : World} {b3 b4 b5 b6 b12 : Nat} {st L : List Int} (h : BL w W b3 b4 b5 b6 st L) (hl : L.length = 64) (he : W.heap.size = b12) (h1 : W2.heap[b12]? = some (.cells (nums .u64 st).toArray 83 (0, 0))) (h2 : (W.alloc (.cells (nums .u64 zero83).toArray 83)).grownBy W2 (some b12)) (h3 : Below w.heap.size w W2) : BM w W2 b3 b4 b5 b6 b12 st L (rounds L st 0) := by
  obtain ⟨⟨n1, n2, n3, n4, n5, n6⟩, l3, l4, l5, l6⟩ := h.ne
  have k3 := h.r3.lt; have k4 := h.r4.lt; have k5 := h.r5.lt; have k6 := h.r6.lt
  have k : ∀ q, q < b12 → W2.heap[q]? = W.heap[q]? := fun q hq => (h2.block q (by rw [size_alloc]; omega) (by simp; omega)).trans (Below.heap_alloc W _ q (by omega))
  refine ⟨h3, (k b3 (by omega)).trans h.r3, ?_, (k b5 (by omega)).trans h.r5, (k b6 (by omega)).trans h.r6, h1, ⟨n3, by omega, by omega, by omega, by omega, by omega, by omega⟩, l3, l6, by have := h.below.size; omega⟩
  have := h.r4
  rw [pad64_full hl] at this
  exact (k b4 (by omega)).trans this
structure RB3 (w W : World) (b3 b4 b5 b6 b12 : Nat) (st L : List Int) (n : Nat) (kw ww x0 x1 x2 x3 x4 x5 x6 x7 : Int) : Prop where
  all : BM w W b3 b4 b5 b6 b12 st L [x0, x1, x2, x3, x4, x5, x6, x7]
  kc : W.cell? ⟨b5, n, none⟩ = some (.int .u64 kw)
  wc : W.cell? ⟨b4, n, none⟩ = some (.int .u64 ww)
theorem rb_in {w W : World} {b3 b4 b5 b6 b12 n : Nat} {st L v : List Int} {kw ww x0 x1 x2 x3 x4 x5 x6 x7 : Int} (h : BM w W b3 b4 b5 b6 b12 st L v) (hx : v = [x0, x1, x2, x3, x4, x5, x6, x7]) (hn : n < 64) (hw : L.length = 64) (hk : keyL.getD n 0 = kw) (hww : L.getD n 0 = ww) : RB3 w W b3 b4 b5 b6 b12 st L n kw ww x0 x1 x2 x3 x4 x5 x6 x7 :=
  ⟨hx ▸ h, by rw [← hk]; exact h.r5.cell n (by rw [keyL_len]; exact hn), by rw [← hww]; exact h.r4.cell n (by rw [hw]; exact hn)⟩
theorem RB3.drew {w W : World} {b3 b4 b5 b6 b12 n : Nat} {st L : List Int} {kw ww x0 x1 x2 x3 x4 x5 x6 x7 : Int} (h : RB3 w W b3 b4 b5 b6 b12 st L n kw ww x0 x1 x2 x3 x4 x5 x6 x7) (k : Nat) : RB3 w (W.drewN k) b3 b4 b5 b6 b12 st L n kw ww x0 x1 x2 x3 x4 x5 x6 x7 := ⟨h.all.drew k, h.kc, h.wc⟩
theorem RB3.cells {w W : World} {b3 b4 b5 b6 b12 n : Nat} {st L : List Int} {kw ww x0 x1 x2 x3 x4 x5 x6 x7 : Int} (h : RB3 w W b3 b4 b5 b6 b12 st L n kw ww x0 x1 x2 x3 x4 x5 x6 x7) :
    W.cell? ⟨b12, 0, none⟩ = some (.int .u64 x0) ∧ W.cell? ⟨b12, 1, none⟩ = some (.int .u64 x1) ∧ W.cell? ⟨b12, 2, none⟩ = some (.int .u64 x2) ∧ W.cell? ⟨b12, 3, none⟩ = some (.int .u64 x3) ∧ W.cell? ⟨b12, 4, none⟩ = some (.int .u64 x4) ∧ W.cell? ⟨b12, 5, none⟩ = some (.int .u64 x5) ∧ W.cell? ⟨b12, 6, none⟩ = some (.int .u64 x6) ∧ W.cell? ⟨b12, 7, none⟩ = some (.int .u64 x7) ∧ W.cell? ⟨b5, n, none⟩ = some (.int .u64 kw) ∧ W.cell? ⟨b4, n, none⟩ = some (.int .u64 ww) :=
  ⟨h.all.r12.cell 0 (by decide : 0 < 8), h.all.r12.cell 1 (by decide : 1 < 8), h.all.r12.cell 2 (by decide : 2 < 8), h.all.r12.cell 3 (by decide : 3 < 8), h.all.r12.cell 4 (by decide : 4 < 8), h.all.r12.cell 5 (by decide : 5 < 8), h.all.r12.cell 6 (by decide : 6 < 8), h.all.r12.cell 7 (by decide : 7 < 8), h.kc, h.wc⟩
theorem RB3.fro {w W : World} {b3 b4 b5 b6 b12 n : Nat} {st L : List Int} {kw ww x0 x1 x2 x3 x4 x5 x6 x7 : Int} (h : RB3 w W b3 b4 b5 b6 b12 st L n kw ww x0 x1 x2 x3 x4 x5 x6 x7) : W.frozen? ⟨b12, 0, none⟩ = false ∧ W.frozen? ⟨b12, 1, none⟩ = false ∧ W.frozen? ⟨b12, 2, none⟩ = false ∧ W.frozen? ⟨b12, 3, none⟩ = false ∧ W.frozen? ⟨b12, 4, none⟩ = false ∧ W.frozen? ⟨b12, 5, none⟩ = false ∧ W.frozen? ⟨b12, 6, none⟩ = false ∧ W.frozen? ⟨b12, 7, none⟩ = false :=
  ⟨h.all.r12.fro 0, h.all.r12.fro 1, h.all.r12.fro 2, h.all.r12.fro 3, h.all.r12.fro 4, h.all.r12.fro 5, h.all.r12.fro 6, h.all.r12.fro 7⟩
theorem mod_U (x : Int) : U (x % 4294967296) := by unfold U; omega
theorem round1_U {k ww : Int} {l : List Int} (h : ∀ x ∈ l, U x) : ∀ x ∈ round1 k ww l, U x := by
  unfold round1
  split
  · intro x hx
    simp only [List.mem_cons, List.not_mem_nil, or_false] at hx h
    rcases hx with rfl | rfl | rfl | rfl | rfl | rfl | rfl | rfl
    · exact mod_U _
    all_goals first | exact mod_U _ | (apply h; simp)
  · exact h
theorem rounds_U {ws st : List Int} (h : ∀ x ∈ st, U x) : ∀ n, ∀ x ∈ rounds ws st n, U x
  | 0 => h
  | n + 1 => round1_U (rounds_U h n)
theorem keyL_U : ∀ x ∈ keyL, U x := by
  have : (keyL.all fun x => decide (0 ≤ x) && decide (x < 4294967296)) = true := by rfl
  intro x hx
  have := List.all_eq_true.1 this x hx
  simp at this
  exact this
theorem round_U {st L : List Int} {n : Nat} {kw ww x0 x1 x2 x3 x4 x5 x6 x7 : Int} (hs : ∀ x ∈ st, U x) (hL : L.length = 64 ∧ ∀ x ∈ L, U x) (hn : n < 64) (hx : rounds L st n = [x0, x1, x2, x3, x4, x5, x6, x7]) (hk : keyL.getD n 0 = kw) (hw : L.getD n 0 = ww) : U x0 ∧ U x1 ∧ U x2 ∧ U x3 ∧ U x4 ∧ U x5 ∧ U x6 ∧ U x7 ∧ U kw ∧ U ww := by
  have h := rounds_U (ws := L) hs n
  rw [hx] at h
  refine ⟨?_, ?_, ?_, ?_, ?_, ?_, ?_, ?_, get_U keyL_U hk (by rw [keyL_len]; exact hn), get_U hL.2 hw (by omega)⟩ <;> (apply h; simp)
theorem up_is {x : Int} (hx : U x) : bits .xor .u64 (bits .xor .u64 (rot 26 x) (rot 21 x)) (rot 7 x) = up1 x ∧ U (up1 x) := by
  obtain ⟨a1, a2⟩ := xor_is (rot_U (m := 26) (by decide) hx) (rot_U (m := 21) (by decide) hx)
  obtain ⟨a3, a4⟩ := xor_is a2 (rot_U (m := 7) (by decide) hx)
  unfold up1
  rw [a1, a3]
  exact ⟨rfl, a4⟩
theorem dn_is {x : Int} (hx : U x) : bits .xor .u64 (bits .xor .u64 (rot 30 x) (rot 19 x)) (rot 10 x) = dn1 x ∧ U (dn1 x) := by
  obtain ⟨a1, a2⟩ := xor_is (rot_U (m := 30) (by decide) hx) (rot_U (m := 19) (by decide) hx)
  obtain ⟨a3, a4⟩ := xor_is a2 (rot_U (m := 10) (by decide) hx)
  unfold dn1
  rw [a1, a3]
  exact ⟨rfl, a4⟩
theorem ch_is {x4 x5 x6 : Int} (h4 : U x4) (h5 : U x5) (h6 : U x6) : bits .xor .u64 (bits .and .u64 x4 x5) (bits .and .u64 (4294967295 - x4) x6) = ch1 x4 x5 x6 ∧ U (ch1 x4 x5 x6) := by
  obtain ⟨n1, n2⟩ := not_is h4
  obtain ⟨a1, a2⟩ := and_is h4 h5
  rw [n1]
  obtain ⟨a3, a4⟩ := and_is n2 h6
  obtain ⟨a5, a6⟩ := xor_is a2 a4
  unfold ch1
  rw [a1, a3, a5]
  exact ⟨rfl, a6⟩
theorem mj_is {x0 x1 x2 : Int} (h0 : U x0) (h1 : U x1) (h2 : U x2) : bits .xor .u64 (bits .xor .u64 (bits .and .u64 x0 x1) (bits .and .u64 x0 x2)) (bits .and .u64 x1 x2) = mj1 x0 x1 x2 ∧ U (mj1 x0 x1 x2) := by
  obtain ⟨a1, a2⟩ := and_is h0 h1
  obtain ⟨a3, a4⟩ := and_is h0 h2
  obtain ⟨a5, a6⟩ := and_is h1 h2
  obtain ⟨a7, a8⟩ := xor_is a2 a4
  obtain ⟨a9, aa⟩ := xor_is a8 a6
  unfold mj1
  rw [a1, a3, a5, a7, a9]
  exact ⟨rfl, aa⟩
theorem ref_round {kw ww x0 x1 x2 x3 x4 x5 x6 x7 : Int} (hU : U x0 ∧ U x1 ∧ U x2 ∧ U x3 ∧ U x4 ∧ U x5 ∧ U x6 ∧ U x7 ∧ U kw ∧ U ww) :
    [bits .and .u64 (IntKind.u64.wrap (IntKind.u64.wrap (IntKind.u64.wrap (IntKind.u64.wrap (IntKind.u64.wrap (IntKind.u64.wrap (x7 + bits .xor .u64 (bits .xor .u64 (rot 26 x4) (rot 21 x4)) (rot 7 x4)) + bits .xor .u64 (bits .and .u64 x4 x5) (bits .and .u64 (4294967295 - x4) x6)) + kw) + ww) + bits .xor .u64 (bits .xor .u64 (rot 30 x0) (rot 19 x0)) (rot 10 x0)) + bits .xor .u64 (bits .xor .u64 (bits .and .u64 x0 x1) (bits .and .u64 x0 x2)) (bits .and .u64 x1 x2))) 4294967295, x0, x1, x2, bits .and .u64 (IntKind.u64.wrap (x3 + IntKind.u64.wrap (IntKind.u64.wrap (IntKind.u64.wrap (IntKind.u64.wrap (x7 + bits .xor .u64 (bits .xor .u64 (rot 26 x4) (rot 21 x4)) (rot 7 x4)) + bits .xor .u64 (bits .and .u64 x4 x5) (bits .and .u64 (4294967295 - x4) x6)) + kw) + ww))) 4294967295, x4, x5, x6] = round1 kw ww [x0, x1, x2, x3, x4, x5, x6, x7] := by
  obtain ⟨u0, u1, u2, u3, u4, u5, u6, u7, uk, uw⟩ := hU
  obtain ⟨e1, v1⟩ := up_is u4
  obtain ⟨e2, v2⟩ := ch_is u4 u5 u6
  obtain ⟨e3, v3⟩ := dn_is u0
  obtain ⟨e4, v4⟩ := mj_is u0 u1 u2
  rw [e1, e2, e3, e4]
  unfold round1
  simp only
  generalize up1 x4 = a at v1 ⊢
  generalize ch1 x4 x5 x6 = b at v2 ⊢
  generalize dn1 x0 = c at v3 ⊢
  generalize mj1 x0 x1 x2 = d at v4 ⊢
  clear e1 e2 e3 e4
  unfold U at *
  simp only [IntKind.wrap_u64]
  rw [mask_is (by omega) (by omega), mask_is (by omega) (by omega)]
  have p1 : ((((((x7 + a) % 18446744073709551616 + b) % 18446744073709551616 + kw) % 18446744073709551616 + ww) % 18446744073709551616 + c) % 18446744073709551616 + d) % 18446744073709551616 % 4294967296 = (x7 + a + b + kw + ww + (c + d)) % 4294967296 := by omega
  have p2 : (x3 + (((x7 + a) % 18446744073709551616 + b) % 18446744073709551616 + kw + ww) % 18446744073709551616) % 18446744073709551616 % 4294967296 = (x3 + (x7 + a + b + kw + ww)) % 4294967296 := by omega
  have p3 : (x3 + ((((x7 + a) % 18446744073709551616 + b) % 18446744073709551616 + kw) % 18446744073709551616 + ww) % 18446744073709551616) % 18446744073709551616 % 4294967296 = (x3 + (x7 + a + b + kw + ww)) % 4294967296 := by omega
  rw [p1, p3]
theorem BM.set1 {w W : World} {b3 b4 b5 b6 b12 : Nat} {s3 L v : List Int} (h : BM w W b3 b4 b5 b6 b12 s3 L v) (j : Nat) (y : Int) : BM w (W.setCell ⟨b12, j, none⟩ (.int .u64 y)) b3 b4 b5 b6 b12 s3 L (v.set j y) := by
  obtain ⟨⟨n1, n2, n3, n4, n5, n6, n7⟩, l3, l6, l12⟩ := h.ne
  have hne : ∀ q, q ≠ b12 → (W.setCell ⟨b12, j, none⟩ (.int .u64 y)).heap[q]? = W.heap[q]? := fun q hq => Below.heap_setCell W ⟨b12, j, none⟩ _ q hq
  exact ⟨h.below.setCell l12 _, (hne _ n2).trans h.r3, (hne _ n3).trans h.r4, (hne _ n4).trans h.r5, (hne _ n5).trans h.r6, h.r12.set j y, h.ne⟩
theorem BM.set8 {w W : World} {b3 b4 b5 b6 b12 : Nat} {s3 L : List Int} {x0 x1 x2 x3 x4 x5 x6 x7 : Int} (h : BM w W b3 b4 b5 b6 b12 s3 L [x0, x1, x2, x3, x4, x5, x6, x7]) (y0 y1 y2 y3 y4 y5 y6 y7 : Int) : ∀ W' : World, W' = ((((((((W.setCell ⟨b12, 0, none⟩ (.int .u64 y0)).setCell ⟨b12, 1, none⟩ (.int .u64 y1)).setCell ⟨b12, 2, none⟩ (.int .u64 y2)).setCell ⟨b12, 3, none⟩ (.int .u64 y3)).setCell ⟨b12, 4, none⟩ (.int .u64 y4)).setCell ⟨b12, 5, none⟩ (.int .u64 y5)).setCell ⟨b12, 6, none⟩ (.int .u64 y6)).setCell ⟨b12, 7, none⟩ (.int .u64 y7)) → BM w W' b3 b4 b5 b6 b12 s3 L [y0, y1, y2, y3, y4, y5, y6, y7] := by
  intro W' hW
  subst hW
  exact (((((((h.set1 0 y0).set1 1 y1).set1 2 y2).set1 3 y3).set1 4 y4).set1 5 y5).set1 6 y6).set1 7 y7
theorem rb_out {w W : World} {b3 b4 b5 b6 b12 n : Nat} {st L : List Int} {kw ww x0 x1 x2 x3 x4 x5 x6 x7 : Int} (h : RB3 w W b3 b4 b5 b6 b12 st L n kw ww x0 x1 x2 x3 x4 x5 x6 x7) (hx : rounds L st n = [x0, x1, x2, x3, x4, x5, x6, x7]) (hk : keyL.getD n 0 = kw) (hww : L.getD n 0 = ww) {W' : World} {y0 y1 y2 y3 y4 y5 y6 y7 : Int} {l : List Int} (hW : W' = ((((((((W.setCell ⟨b12, 0, none⟩ (.int .u64 y0)).setCell ⟨b12, 1, none⟩ (.int .u64 y1)).setCell ⟨b12, 2, none⟩ (.int .u64 y2)).setCell ⟨b12, 3, none⟩ (.int .u64 y3)).setCell ⟨b12, 4, none⟩ (.int .u64 y4)).setCell ⟨b12, 5, none⟩ (.int .u64 y5)).setCell ⟨b12, 6, none⟩ (.int .u64 y6)).setCell ⟨b12, 7, none⟩ (.int .u64 y7))) (hl : l = [y0, y1, y2, y3, y4, y5, y6, y7]) (hy : l = round1 kw ww [x0, x1, x2, x3, x4, x5, x6, x7]) :
    BM w W' b3 b4 b5 b6 b12 st L (rounds L st (n + 1)) := by
  have e : rounds L st (n + 1) = [y0, y1, y2, y3, y4, y5, y6, y7] := by rw [← hl, hy, ← hx, ← hk, ← hww]; rfl
  rw [e]
  exact h.all.set8 y0 y1 y2 y3 y4 y5 y6 y7 W' hW
theorem part_U {vs st : List Int} (h : ∀ x ∈ st, U x) : ∀ n, ∀ x ∈ Sx.part vs st n, U x
  | 0 => h
  | n + 1 => by
    intro x hx
    rcases List.mem_or_eq_of_mem_set hx with hx | rfl
    · exact part_U h n x hx
    · exact mod_U _
theorem BM.add {w W : World} {b3 b4 b5 b6 b12 n : Nat} {st L vs : List Int} {x y : Int} (h : BM w W b3 b4 b5 b6 b12 (Sx.part vs st n) L vs) (hx : (Sx.part vs st n).getD n 0 = x) (hy : vs.getD n 0 = y) (hU : U x ∧ U y) : BM w (W.setCell ⟨b3, n, none⟩ (.int .u64 (bits .and .u64 (IntKind.u64.wrap (x + y)) 4294967295))) b3 b4 b5 b6 b12 (Sx.part vs st (n + 1)) L vs := by
  obtain ⟨⟨n1, n2, n3, n4, n5, n6, n7⟩, l3, l6, l12⟩ := h.ne
  have hv : bits .and .u64 (IntKind.u64.wrap (x + y)) 4294967295 = (x + y) % 4294967296 := by
    simp only [IntKind.wrap_u64]
    rw [mask_is (by omega) (by omega)]
    omega
  rw [hv]
  have hne : ∀ q, q ≠ b3 → (W.setCell ⟨b3, n, none⟩ (.int .u64 ((x + y) % 4294967296))).heap[q]? = W.heap[q]? := fun q hq => Below.heap_setCell W ⟨b3, n, none⟩ _ q hq
  refine ⟨h.below.setCell l3 _, ?_, (hne _ n6).trans h.r4, (hne _ n7).trans h.r5, (hne _ (Ne.symm n1)).trans h.r6, (hne _ (Ne.symm n2)).trans h.r12, h.ne⟩
  have := h.r3.set n ((x + y) % 4294967296)
  unfold Sx.part
  rw [hx, hy]
  exact this
def rb7T : Bool × List (List Nat × List Nat) := (true, [([], []), ([], []), ([1], [1]), ([2], [2]), ([3], [3]), ([], []), ([4, 5], [4, 5]), ([], []), ([7], [7]), ([8], [8]), ([9], [9]), ([6, 10], [6, 10]), ([], []), ([11, 12], [11, 12]), ([13], [13]), ([0, 0, 1, 2, 3, 4, 5, 6, 7, 8, 9, 10, 11, 12, 13, 14], [0]), ([15, 14, 0, 1, 2, 3, 4, 5, 6, 7, 8, 9, 10, 11, 12, 13, 14], [14, 15])])
def rb7B : List Nat := [0, 0, 2, 6, 14, 0, 62, 0, 128, 384, 896, 2046, 0, 8190, 16382, 32767, 65535]
theorem rb7tab : rtab .any (opsOf Try.f51 7) = rb7T := by kernel_rfl
theorem rb7bits : waitsOk rb7T.2 rb7B = true := by kernel_rfl
def rb22T : Bool × List (List Nat × List Nat) := (true, [([], []), ([], []), ([1], [1]), ([2], [2]), ([], []), ([4], [4]), ([5], [5]), ([3, 6], [3, 6]), ([7], [7]), ([0, 0, 1, 2, 3, 4, 5, 6, 7, 8], [0]), ([9, 8, 0, 1, 2, 3, 4, 5, 6, 7, 8], [8, 9])])
def rb22B : List Nat := [0, 0, 2, 6, 0, 16, 48, 126, 254, 511, 1023]
theorem rb22tab : rtab .any (opsOf Try.f51 22) = rb22T := by kernel_rfl
theorem rb22bits : waitsOk rb22T.2 rb22B = true := by kernel_rfl
set_option maxHeartbeats 2000000 in
theorem block_calls (w : World) (st W0 : List Int) (hst : st.length = 8) (hw0 : W0.length = 16) (hsu : ∀ x ∈ st, U x) (hwu : ∀ x ∈ W0, U x) :
    Calls Try.prog 51 #[.agg (nums .u64 st).toArray, .agg (nums .u64 (pad64 W0)).toArray, .agg (nums .u64 keyL).toArray] w fun e w' => e = .returned (.agg (nums .u64 (blk st W0)).toArray) ∧ Below w.heap.size w w' := by
  have HH := Aside0.mk (⟨hst, hw0, hsu, hwu⟩ : st.length = 8 ∧ W0.length = 16 ∧ (∀ x ∈ st, U x) ∧ ∀ x ∈ W0, U x)
  clear hst hw0 hsu hwu
  go_enter Try.func51, Try.ntmps51
  go_wp2_with (first | (with_reducible refine op_alloc rfl 83 rfl _ z83 ?_))
  have HB0 := Aside0.mk (BL.start w st W0)
  generalize (((w.alloc (Obj.cells (nums IntKind.u64 st).toArray 83)).alloc (Obj.cells (nums IntKind.u64 (pad64 W0)).toArray 81)).alloc (Obj.cells (nums IntKind.u64 keyL).toArray 81)).alloc (Obj.cells (nums IntKind.u64 zero83).toArray 83) = W1 at HB0 ⊢
  generalize w.heap.size + 1 + 1 + 1 = b6 at HB0 ⊢
  generalize w.heap.size + 1 + 1 = b5 at HB0 ⊢
  generalize w.heap.size + 1 = b4 at HB0 ⊢
  generalize w.heap.size = b3 at HB0 ⊢
  go_loopw [7] (fun v wr => ∃ (n p : Nat) (L : List Int), n ≤ 64 ∧ v = .int .i64 n ∧ Aside0 (L = ext W0 p) ∧ Aside0 (n = 16 + p ∧ L.length = n ∧ ∀ x ∈ L, U x) ∧ Aside0 (BL w wr b3 b4 b5 b6 st L)) (fun v _ => 64 - (intOf v).toNat)
  case atStart => exact ⟨16, 0, W0, by decide, rfl, ⟨rfl⟩, ⟨rfl, HH.out.2.1, HH.out.2.2.2⟩, HB0⟩
  case round =>
    clear HB0
    obtain ⟨n, p, L, hn, rfl, HL, HN, HB⟩ := hrel
    by_cases hlt : n < 64
    · have hlt' : decide ((n : Int) < 64) = true := by simp; omega
      obtain ⟨m15, h15⟩ : ∃ m : Nat, n = m + 15 := ⟨n - 15, by have := HN.out; omega⟩
      obtain ⟨m2, h2⟩ : ∃ m : Nat, n = m + 2 := ⟨n - 2, by have := HN.out; omega⟩
      obtain ⟨m16, h16⟩ : ∃ m : Nat, n = m + 16 := ⟨n - 16, by have := HN.out; omega⟩
      obtain ⟨m7, h7⟩ : ∃ m : Nat, n = m + 7 := ⟨n - 7, by have := HN.out; omega⟩
      obtain ⟨f15, f2, f16, f7, g15, g2, g16, g7, gn⟩ := backs n m15 m2 m16 m7 hlt h15 h2 h16 h7
      obtain ⟨x15, hx15, hy15⟩ := word_at L m15 (by have := HN.out; omega)
      obtain ⟨x2, hx2, hy2⟩ := word_at L m2 (by have := HN.out; omega)
      obtain ⟨x16, hx16, hy16⟩ := word_at L m16 (by have := HN.out; omega)
      obtain ⟨x7, hx7, hy7⟩ := word_at L m7 (by have := HN.out; omega)
      have HU := Aside0.mk (⟨get_U HN.out.2.2 hy15.out (by have := HN.out; omega), get_U HN.out.2.2 hy2.out (by have := HN.out; omega), get_U HN.out.2.2 hy16.out (by have := HN.out; omega), get_U HN.out.2.2 hy7.out (by have := HN.out; omega)⟩ : U x15 ∧ U x2 ∧ U x16 ∧ U x7)
      have HM := Aside0.mk (⟨h15, h2, h16, h7⟩ : n = m15 + 15 ∧ n = m2 + 2 ∧ n = m16 + 16 ∧ n = m7 + 7)
      have HNL := Aside0.mk (show 64 ≤ (pad64 L).length from by rw [pad64_len _ (by have := HN.out; omega)]; omega)
      have hc15 := HB.out.r4.at m15 (by have := HNL.out; omega) x15 hx15.out
      have hc2 := HB.out.r4.at m2 (by have := HNL.out; omega) x2 hx2.out
      have e15 : (n : Int) - 15 = (m15 : Int) := by omega
      have e2 : (n : Int) - 2 = (m2 : Int) := by omega
      clear h15 h2 h16 h7
      go_upto_region 4 with (fail)
      go_quiet (fail)
      have HB1 := Aside0.mk (HB.out.drew nq)
      generalize World.drewN _ nq = W2 at HB1 ⊢
      clear hc15 hc2 HB e15 e2
      go_upto_region 7 with (first
        | ((with_reducible refine (t7 HU.out.1 _).mono ?_); rintro _ _ ⟨rfl, ⟨⟨n1, rfl⟩⟩⟩)
        | ((with_reducible refine (t18 HU.out.1 _).mono ?_); rintro _ _ ⟨rfl, ⟨⟨n2, rfl⟩⟩⟩)
        | ((with_reducible refine (d3 HU.out.1 _).mono ?_); rintro _ _ ⟨rfl, ⟨⟨n3, rfl⟩⟩⟩)
        | ((with_reducible refine (t17 HU.out.2.1 _).mono ?_); rintro _ _ ⟨rfl, ⟨⟨n4, rfl⟩⟩⟩)
        | ((with_reducible refine (t19 HU.out.2.1 _).mono ?_); rintro _ _ ⟨rfl, ⟨⟨n5, rfl⟩⟩⟩)
        | ((with_reducible refine (d10 HU.out.2.1 _).mono ?_); rintro _ _ ⟨rfl, ⟨⟨n6, rfl⟩⟩⟩))
      have HB2 := Aside0.mk (HB1.out.drew (n1 + n2 + n3 + n4 + n5 + n6))
      generalize World.drewN _ (n1 + n2 + n3 + n4 + n5 + n6) = W3 at HB2 ⊢
      clear HB1
      have HE := Aside0.mk (ref_next L n m15 m2 m16 m7 x15 x2 x16 x7 HN.out.2.1 HM.out hy15.out hy2.out hy16.out hy7.out HU.out)
      generalize (bits .xor .u64 (bits .xor .u64 (rot 25 x15) (rot 14 x15)) (x15 / 8)) = s0 at HE ⊢
      generalize (bits .xor .u64 (bits .xor .u64 (rot 15 x2) (rot 13 x2)) (x2 / 1024)) = s1 at HE ⊢
      refine start_ (n := 17) (S := (fun W_ => BL w W_ b3 b4 b5 b6 st L)) (ds := [16]) #[false, false, false, false, false, false, false, false, false, false, false, false, false, false, false, false, false] (by kernel_rfl) rfl rfl (HB2.out.drew 1) (fun hHeld => ?_); refine with_tabW rb7tab rb7bits (fun HT_ HW_ => ?_)
      clear HB2; generalize World.drew _ = wq at hHeld ⊢
      refine pure_ (i := 0) (N := some 50) (v := ?_) (a' := ?_) #[true, false, false, false, false, false, false, false, false, false, false, false, false, false, false, false, false] rfl rfl (any_of HT_.out (by kernel_rfl)) (fun _ _ _ h => h) (Or.inl ⟨by rfl, ?_⟩) ?_ ?_
      rotate_left
      · intro w'
        go_simp
        with_reducible rfl
      rotate_left
      · simp only [Act.put, List.setIfInBounds_toArray, List.set_cons_zero, List.set_cons_succ, i64_w, i32_w]
        rfl
      refine pure_ (i := 1) (N := some 51) (v := ?_) (a' := ?_) #[true, true, false, false, false, false, false, false, false, false, false, false, false, false, false, false, false] rfl rfl (any_of HT_.out (by kernel_rfl)) (fun _ _ _ h => h) (Or.inl ⟨by rfl, ?_⟩) ?_ ?_
      rotate_left
      · intro w'
        go_simp
        with_reducible rfl
      rotate_left
      · simp only [Act.put, List.setIfInBounds_toArray, List.set_cons_zero, List.set_cons_succ, i64_w, i32_w]
        rfl
      refine pure_ (i := 2) (N := some 52) (v := ?_) (a' := ?_) #[true, true, true, false, false, false, false, false, false, false, false, false, false, false, false, false, false] rfl rfl (any_of HT_.out (by kernel_rfl)) (fun _ _ _ h => h) (Or.inl ⟨by rfl, ?_⟩) ?_ ?_
      rotate_left
      · intro w'
        go_simp
        with_reducible rfl
      rotate_left
      · simp only [Act.put, List.setIfInBounds_toArray, List.set_cons_zero, List.set_cons_succ, i64_w, i32_w]
        rfl
      refine pure_ (i := 3) (N := some 53) (v := ?_) (a' := ?_) #[true, true, true, true, false, false, false, false, false, false, false, false, false, false, false, false, false] rfl rfl (any_of HT_.out (by kernel_rfl)) (fun _ _ _ h => h) (Or.inl ⟨by rfl, ?_⟩) ?_ ?_
      rotate_left
      · intro w'
        go_simp
        with_reducible rfl
      rotate_left
      · simp only [Act.put, List.setIfInBounds_toArray, List.set_cons_zero, List.set_cons_succ, i64_w, i32_w]
        rfl
      refine take_ (i := 4) (N := some 54) (v := ?_) (a' := ?_) #[true, true, true, true, true, false, false, false, false, false, false, false, false, false, false, false, false] rfl rfl (take_ofW HT_.out HW_.out (by kernel_rfl)) (fun _ _ _ h => h) (Or.inl ⟨by rfl, ?_⟩) hHeld ?_ ?_
      rotate_left
      · intro w' hw'
        have hf0_ := hw'.r4.at m16 (by have := HNL.out; omega) x16 hx16.out
        go_simp
        with_reducible rfl
      rotate_left
      · simp only [Act.put, List.setIfInBounds_toArray, List.set_cons_zero, List.set_cons_succ, i64_w, i32_w]
        rfl
      refine pure_ (i := 5) (N := some 55) (v := ?_) (a' := ?_) #[true, true, true, true, true, true, false, false, false, false, false, false, false, false, false, false, false] rfl rfl (any_of HT_.out (by kernel_rfl)) (fun _ _ _ h => h) (Or.inl ⟨by rfl, ?_⟩) ?_ ?_
      rotate_left
      · intro w'
        go_simp
        with_reducible rfl
      rotate_left
      · simp only [Act.put, List.setIfInBounds_toArray, List.set_cons_zero, List.set_cons_succ, i64_w, i32_w]
        rfl
      refine pure_ (i := 6) (N := some 56) (v := ?_) (a' := ?_) #[true, true, true, true, true, true, true, false, false, false, false, false, false, false, false, false, false] rfl rfl (any_of HT_.out (by kernel_rfl)) (fun _ _ _ h => h) (Or.inl ⟨by rfl, ?_⟩) ?_ ?_
      rotate_left
      · intro w'
        go_simp
        with_reducible rfl
      rotate_left
      · simp only [Act.put, List.setIfInBounds_toArray, List.set_cons_zero, List.set_cons_succ, i64_w, i32_w]
        rfl
      refine pure_ (i := 7) (N := some 57) (v := ?_) (a' := ?_) #[true, true, true, true, true, true, true, true, false, false, false, false, false, false, false, false, false] rfl rfl (any_of HT_.out (by kernel_rfl)) (fun _ _ _ h => h) (Or.inl ⟨by rfl, ?_⟩) ?_ ?_
      rotate_left
      · intro w'
        go_simp
        with_reducible rfl
      rotate_left
      · simp only [Act.put, List.setIfInBounds_toArray, List.set_cons_zero, List.set_cons_succ, i64_w, i32_w]
        rfl
      refine pure_ (i := 8) (N := some 58) (v := ?_) (a' := ?_) #[true, true, true, true, true, true, true, true, true, false, false, false, false, false, false, false, false] rfl rfl (any_of HT_.out (by kernel_rfl)) (fun _ _ _ h => h) (Or.inl ⟨by rfl, ?_⟩) ?_ ?_
      rotate_left
      · intro w'
        go_simp
        with_reducible rfl
      rotate_left
      · simp only [Act.put, List.setIfInBounds_toArray, List.set_cons_zero, List.set_cons_succ, i64_w, i32_w]
        rfl
      refine pure_ (i := 9) (N := some 59) (v := ?_) (a' := ?_) #[true, true, true, true, true, true, true, true, true, true, false, false, false, false, false, false, false] rfl rfl (any_of HT_.out (by kernel_rfl)) (fun _ _ _ h => h) (Or.inl ⟨by rfl, ?_⟩) ?_ ?_
      rotate_left
      · intro w'
        go_simp
        with_reducible rfl
      rotate_left
      · simp only [Act.put, List.setIfInBounds_toArray, List.set_cons_zero, List.set_cons_succ, i64_w, i32_w]
        rfl
      refine take_ (i := 10) (N := some 60) (v := ?_) (a' := ?_) #[true, true, true, true, true, true, true, true, true, true, true, false, false, false, false, false, false] rfl rfl (take_ofW HT_.out HW_.out (by kernel_rfl)) (fun _ _ _ h => h) (Or.inl ⟨by rfl, ?_⟩) hHeld ?_ ?_
      rotate_left
      · intro w' hw'
        have hf0_ := hw'.r4.at m7 (by have := HNL.out; omega) x7 hx7.out
        go_simp
        with_reducible rfl
      rotate_left
      · simp only [Act.put, List.setIfInBounds_toArray, List.set_cons_zero, List.set_cons_succ, i64_w, i32_w]
        rfl
      refine pure_ (i := 11) (N := some 61) (v := ?_) (a' := ?_) #[true, true, true, true, true, true, true, true, true, true, true, true, false, false, false, false, false] rfl rfl (any_of HT_.out (by kernel_rfl)) (fun _ _ _ h => h) (Or.inl ⟨by rfl, ?_⟩) ?_ ?_
      rotate_left
      · intro w'
        go_simp
        with_reducible rfl
      rotate_left
      · simp only [Act.put, List.setIfInBounds_toArray, List.set_cons_zero, List.set_cons_succ, i64_w, i32_w]
        rfl
      refine pure_ (i := 12) (N := some 62) (v := ?_) (a' := ?_) #[true, true, true, true, true, true, true, true, true, true, true, true, true, false, false, false, false] rfl rfl (any_of HT_.out (by kernel_rfl)) (fun _ _ _ h => h) (Or.inl ⟨by rfl, ?_⟩) ?_ ?_
      rotate_left
      · intro w'
        go_simp
        with_reducible rfl
      rotate_left
      · simp only [Act.put, List.setIfInBounds_toArray, List.set_cons_zero, List.set_cons_succ, i64_w, i32_w]
        rfl
      refine pure_ (i := 13) (N := some 63) (v := ?_) (a' := ?_) #[true, true, true, true, true, true, true, true, true, true, true, true, true, true, false, false, false] rfl rfl (any_of HT_.out (by kernel_rfl)) (fun _ _ _ h => h) (Or.inl ⟨by rfl, ?_⟩) ?_ ?_
      rotate_left
      · intro w'
        go_simp
        with_reducible rfl
      rotate_left
      · simp only [Act.put, List.setIfInBounds_toArray, List.set_cons_zero, List.set_cons_succ, i64_w, i32_w]
        rfl
      refine pure_ (i := 14) (N := some 64) (v := ?_) (a' := ?_) #[true, true, true, true, true, true, true, true, true, true, true, true, true, true, true, false, false] rfl rfl (any_of HT_.out (by kernel_rfl)) (fun _ _ _ h => h) (Or.inl ⟨by rfl, ?_⟩) ?_ ?_
      rotate_left
      · intro w'
        go_simp
        with_reducible rfl
      rotate_left
      · simp only [Act.put, List.setIfInBounds_toArray, List.set_cons_zero, List.set_cons_succ, i64_w, i32_w]
        rfl
      refine pure_ (i := 15) (N := some 65) (v := ?_) (a' := ?_) #[true, true, true, true, true, true, true, true, true, true, true, true, true, true, true, true, false] rfl rfl (any_of HT_.out (by kernel_rfl)) (fun _ _ _ h => h) (Or.inl ⟨by rfl, ?_⟩) ?_ ?_
      rotate_left
      · intro w'
        go_simp
        with_reducible rfl
      rotate_left
      · simp only [Act.put, List.setIfInBounds_toArray, List.set_cons_zero, List.set_cons_succ, i64_w, i32_w]
        rfl
      have hcl := hHeld.r4.cell n (by have := HNL.out; omega); have hfr := hHeld.r4.fro n
      refine last_ (i := 16) (N := none) #[true, true, true, true, true, true, true, true, true, true, true, true, true, true, true, true, true] rfl rfl (one_of HT_.out (by kernel_rfl)) (by decide) (fun K hK => ?_)
      refine skip_ (w1 := (wq.setCell ⟨b4, n, none⟩ (.int .u64 (bits .and .u64 (IntKind.u64.wrap (IntKind.u64.wrap (IntKind.u64.wrap (x16 + s0) + x7) + s1)) 4294967295)))) (by rfl) rfl (by go_simp; first | done | rfl) ?_
      refine hK.out _ _ ?_
      clear hK K
      have hQ : BL w (wq.setCell ⟨b4, n, none⟩ (.int .u64 (bits .and .u64 (IntKind.u64.wrap (IntKind.u64.wrap (IntKind.u64.wrap (x16 + s0) + x7) + s1)) 4294967295))) b3 b4 b5 b6 st (L ++ [nextw L]) := hHeld.next HN.out.2.1 hlt HE.out
      generalize wq.setCell _ _ = wx at hQ ⊢
      refine done_ (done_of HT_.out (by kernel_rfl)) ?_
      clear hHeld hcl hfr
      go_wp2
      go_roundw
      case rel => exact ⟨n + 1, p + 1, L ++ [nextw L], by omega, by go_num, ⟨by rw [HL.out]; rfl⟩, ⟨by have := HN.out; omega, by have := HN.out; simp; omega, next_U HN.out.2.2⟩, ⟨hQ⟩⟩
      case measure => simp [intOf]; omega
    · have hlt' : decide ((n : Int) < 64) = false := by simp; omega
      obtain rfl : n = 64 := by omega
      have hp : p = 48 := by have := HN.out; omega
      obtain ⟨b12, hb12⟩ : ∃ b, wr.heap.size = b := ⟨_, rfl⟩
      have HGE := Aside0.mk hb12
      have HUL := Aside0.mk (⟨HN.out.2.1, HN.out.2.2⟩ : L.length = 64 ∧ ∀ x ∈ L, U x)
      have HLW := Aside0.mk (hp ▸ HL.out)
      have HG3 := Aside0.mk (show wr.heap[b3]? = some (.cells (nums .u64 st).toArray 83 (0, 0)) from HB.out.r3)
      have HSZ := Aside0.mk (show (nums .u64 st).toArray.size = 8 from by simp [nums, HH.out.1])
      have HB9 := Aside0.mk (HB.out.below.alloc HB.out.below.size (.cells (nums .u64 zero83).toArray 83))
      have HN9 := Aside0.mk (hb12 ▸ heap_alloc_new wr (.cells (nums .u64 zero83).toArray 83) : (wr.alloc (.cells (nums .u64 zero83).toArray 83)).heap[b12]? = some (.cells (nums .u64 zero83).toArray 83 (0, 0)))
      have hle := HB.out.below.size
      rw [hb12] at hle
      have HLE := Aside0.mk hle
      clear hb12 hp HL HN hle
      go_upto_region 9 with (first
        | (with_reducible refine op_load rfl 83 _ rfl b3 rfl 83 _ _ HG3.out Try.underlying83 rfl 8 sz83 HSZ.out ?_)
        | ((with_reducible refine op_alloc rfl 83 rfl _ z83 ?_); simp only [HGE.out])
        | ((with_reducible refine op_store (w0 := w) (o := ⟨none, .store 83 (.tmp 12) (.tmp 66), _, _, _, _⟩) w.heap.size ?_ 83 (.tmp 12) (.tmp 66) ?_ b12 (nums .u64 st).toArray ?_ ?_ 83 _ HN9.out 8 sz83 HSZ.out rfl (nums_all _ _) HB9.out HLE.out ?_); rfl; rfl; rfl; rfl; intro W2 h1 h2 h3))
      have HM := Aside0.mk (HB.out.made HUL.out.1 HGE.out h1.out h2.out h3.out)
      clear HB HGE HG3 HB9 HN9 HLE h1 h2 h3
      go_wp2
      go_loopw [13] (fun v wr => ∃ n : Nat, n ≤ 64 ∧ v = .int .i64 n ∧ Aside0 (BM w wr b3 b4 b5 b6 b12 st L (rounds L st n))) (fun v _ => 64 - (intOf v).toNat)
      case atStart => exact ⟨0, by decide, rfl, HM⟩
      case round =>
        clear HM
        obtain ⟨n, hn, rfl, HB⟩ := hrel
        by_cases hlt : n < 64
        · have hlt' : decide ((n : Int) < 64) = true := by simp; omega
          obtain ⟨x0, x1, x2, x3, x4, x5, x6, x7, hx⟩ := eight (rounds L st n) (rounds_len L st n HH.out.1)
          obtain ⟨kw, hkw⟩ : ∃ x, keyL.getD n 0 = x := ⟨_, rfl⟩; obtain ⟨ww, hww⟩ : ∃ x, L.getD n 0 = x := ⟨_, rfl⟩
          have HX := Aside0.mk hx; have HKW := Aside0.mk hkw; have HWW := Aside0.mk hww
          have HU := Aside0.mk (round_U HH.out.2.2.1 HUL.out hlt hx hkw hww)
          have H1 := Aside0.mk (rb_in HB.out hx hlt HUL.out.1 hkw hww)
          obtain ⟨c0, c1, c2, c3, c4, c5, c6, c7, hkc, hwc⟩ := H1.out.cells
          have gn : (n : Int) < 64 := by omega
          have u4a : 0 ≤ x4 := HU.out.2.2.2.2.1.1
          have u4b : x4 < 4294967296 := HU.out.2.2.2.2.1.2
          clear hx hkw hww HB
          go_upto_region 12 with (fail)
          go_quiet (fail)
          have H2 := Aside0.mk (H1.out.drew nq)
          generalize World.drewN _ nq = W2 at H2 ⊢
          clear c0 c1 c2 c3 c4 c5 c6 c7 hkc hwc H1
          obtain ⟨c0, c1, c2, c3, c4, c5, c6, c7, hkc, hwc⟩ := H2.out.cells
          go_upto_region 14 with (first
            | ((with_reducible refine (t6 HU.out.2.2.2.2.1 _).mono ?_); rintro _ _ ⟨rfl, ⟨⟨n1, rfl⟩⟩⟩)
            | ((with_reducible refine (t11 HU.out.2.2.2.2.1 _).mono ?_); rintro _ _ ⟨rfl, ⟨⟨n2, rfl⟩⟩⟩)
            | ((with_reducible refine (t25 HU.out.2.2.2.2.1 _).mono ?_); rintro _ _ ⟨rfl, ⟨⟨n3, rfl⟩⟩⟩))
          have H3 := Aside0.mk (H2.out.drew (n1 + n2 + n3))
          generalize World.drewN _ (n1 + n2 + n3) = W3 at H3 ⊢
          clear c0 c1 c2 c3 c4 c5 c6 c7 hkc hwc H2
          obtain ⟨c0, c1, c2, c3, c4, c5, c6, c7, hkc, hwc⟩ := H3.out.cells
          go_upto_region 15 with (fail)
          go_quiet (fail)
          have H4 := Aside0.mk (H3.out.drew nq)
          generalize World.drewN _ nq = W4 at H4 ⊢
          clear c0 c1 c2 c3 c4 c5 c6 c7 hkc hwc H3
          obtain ⟨c0, c1, c2, c3, c4, c5, c6, c7, hkc, hwc⟩ := H4.out.cells
          go_upto_region 17 with (first
            | ((with_reducible refine (t2 HU.out.1 _).mono ?_); rintro _ _ ⟨rfl, ⟨⟨n4, rfl⟩⟩⟩)
            | ((with_reducible refine (t13 HU.out.1 _).mono ?_); rintro _ _ ⟨rfl, ⟨⟨n5, rfl⟩⟩⟩)
            | ((with_reducible refine (t22 HU.out.1 _).mono ?_); rintro _ _ ⟨rfl, ⟨⟨n6, rfl⟩⟩⟩))
          have H5 := Aside0.mk (H4.out.drew (n4 + n5 + n6))
          generalize World.drewN _ (n4 + n5 + n6) = W5 at H5 ⊢
          clear c0 c1 c2 c3 c4 c5 c6 c7 hkc hwc H4
          obtain ⟨c0, c1, c2, c3, c4, c5, c6, c7, hkc, hwc⟩ := H5.out.cells
          obtain ⟨f0, f1, f2, f3, f4, f5, f6, f7⟩ := H5.out.fro
          go_wp2
          go_roundw
          case rel => exact ⟨n + 1, by omega, by go_num, ⟨rb_out H5.out HX.out HKW.out HWW.out rfl rfl (ref_round HU.out)⟩⟩
          case measure => simp [intOf]; omega
        · have hlt' : decide ((n : Int) < 64) = false := by simp; omega
          obtain rfl : n = 64 := by omega
          generalize hvs : rounds L st 64 = vs at HB
          have HV := Aside0.mk hvs
          have hvl : vs.length = 8 := by rw [← hvs]; exact rounds_len L st 64 HH.out.1
          have hvu : ∀ x ∈ vs, U x := by rw [← hvs]; exact rounds_U HH.out.2.2.1 64
          have HVL := Aside0.mk (⟨hvl, hvu⟩ : vs.length = 8 ∧ ∀ x ∈ vs, U x)
          have HB2 := Aside0.mk (HB.out : BM w wr b3 b4 b5 b6 b12 (Sx.part vs st 0) L vs)
          clear hvs hvl hvu HB
          go_wp2
          go_loopw [21] (fun v wr => ∃ n : Nat, n ≤ 8 ∧ v = .int .i64 n ∧ Aside0 (BM w wr b3 b4 b5 b6 b12 (Sx.part vs st n) L vs)) (fun v _ => 8 - (intOf v).toNat)
          case atStart => exact ⟨0, by decide, rfl, HB2⟩
          case round =>
            clear HB2
            obtain ⟨n, hn, rfl, HB⟩ := hrel
            by_cases hlt : n < 8
            · have hlt' : decide ((n : Int) < 8) = true := by simp; omega
              go_upto_region 22 with (fail)
              obtain ⟨x, hx⟩ : ∃ x, (Sx.part vs st n).getD n 0 = x := ⟨_, rfl⟩
              obtain ⟨y, hy⟩ : ∃ y, vs.getD n 0 = y := ⟨_, rfl⟩
              have HX := Aside0.mk hx; have HY := Aside0.mk hy
              have HUU := Aside0.mk (⟨get_U (part_U HH.out.2.2.1 n) hx (by rw [part_len _ _ _ HH.out.1]; exact hlt), get_U HVL.out.2 hy (by rw [HVL.out.1]; exact hlt)⟩ : U x ∧ U y)
              have HPL := Aside0.mk (part_len vs st n HH.out.1)
              have HN := Aside0.mk hlt
              have gn : (n : Int) < 8 := by omega
              clear hx hy
              refine start_ (n := 11) (S := (fun W_ => BM w W_ b3 b4 b5 b6 b12 (Sx.part vs st n) L vs)) (ds := [10]) #[false, false, false, false, false, false, false, false, false, false, false] (by kernel_rfl) rfl rfl (HB.out.drew 1) (fun hHeld => ?_); refine with_tabW rb22tab rb22bits (fun HT_ HW_ => ?_)
              clear HB; generalize World.drew _ = wq at hHeld ⊢
              refine pure_ (i := 0) (N := some 158) (v := ?_) (a' := ?_) #[true, false, false, false, false, false, false, false, false, false, false] rfl rfl (any_of HT_.out (by kernel_rfl)) (fun _ _ _ h => h) (Or.inl ⟨by rfl, ?_⟩) ?_ ?_
              rotate_left
              · intro w'
                go_simp
                with_reducible rfl
              rotate_left
              · simp only [Act.put, List.setIfInBounds_toArray, List.set_cons_zero, List.set_cons_succ, i64_w, i32_w]
                rfl
              refine pure_ (i := 1) (N := some 159) (v := ?_) (a' := ?_) #[true, true, false, false, false, false, false, false, false, false, false] rfl rfl (any_of HT_.out (by kernel_rfl)) (fun _ _ _ h => h) (Or.inl ⟨by rfl, ?_⟩) ?_ ?_
              rotate_left
              · intro w'
                go_simp
                with_reducible rfl
              rotate_left
              · simp only [Act.put, List.setIfInBounds_toArray, List.set_cons_zero, List.set_cons_succ, i64_w, i32_w]
                rfl
              refine pure_ (i := 2) (N := some 160) (v := ?_) (a' := ?_) #[true, true, true, false, false, false, false, false, false, false, false] rfl rfl (any_of HT_.out (by kernel_rfl)) (fun _ _ _ h => h) (Or.inl ⟨by rfl, ?_⟩) ?_ ?_
              rotate_left
              · intro w'
                go_simp
                with_reducible rfl
              rotate_left
              · simp only [Act.put, List.setIfInBounds_toArray, List.set_cons_zero, List.set_cons_succ, i64_w, i32_w]
                rfl
              refine take_ (i := 3) (N := some 161) (v := ?_) (a' := ?_) #[true, true, true, true, false, false, false, false, false, false, false] rfl rfl (take_ofW HT_.out HW_.out (by kernel_rfl)) (fun _ _ _ h => h) (Or.inl ⟨by rfl, ?_⟩) hHeld ?_ ?_
              rotate_left
              · intro w' hw'
                have hf0_ := hw'.r3.at n (by rw [HPL.out]; exact HN.out) x HX.out
                go_simp
                with_reducible rfl
              rotate_left
              · simp only [Act.put, List.setIfInBounds_toArray, List.set_cons_zero, List.set_cons_succ, i64_w, i32_w]
                rfl
              refine pure_ (i := 4) (N := some 162) (v := ?_) (a' := ?_) #[true, true, true, true, true, false, false, false, false, false, false] rfl rfl (any_of HT_.out (by kernel_rfl)) (fun _ _ _ h => h) (Or.inl ⟨by rfl, ?_⟩) ?_ ?_
              rotate_left
              · intro w'
                go_simp
                with_reducible rfl
              rotate_left
              · simp only [Act.put, List.setIfInBounds_toArray, List.set_cons_zero, List.set_cons_succ, i64_w, i32_w]
                rfl
              refine pure_ (i := 5) (N := some 163) (v := ?_) (a' := ?_) #[true, true, true, true, true, true, false, false, false, false, false] rfl rfl (any_of HT_.out (by kernel_rfl)) (fun _ _ _ h => h) (Or.inl ⟨by rfl, ?_⟩) ?_ ?_
              rotate_left
              · intro w'
                go_simp
                with_reducible rfl
              rotate_left
              · simp only [Act.put, List.setIfInBounds_toArray, List.set_cons_zero, List.set_cons_succ, i64_w, i32_w]
                rfl
              refine take_ (i := 6) (N := some 164) (v := ?_) (a' := ?_) #[true, true, true, true, true, true, true, false, false, false, false] rfl rfl (take_ofW HT_.out HW_.out (by kernel_rfl)) (fun _ _ _ h => h) (Or.inl ⟨by rfl, ?_⟩) hHeld ?_ ?_
              rotate_left
              · intro w' hw'
                have hf0_ := hw'.r12.at n (by rw [HVL.out.1]; exact HN.out) y HY.out
                go_simp
                with_reducible rfl
              rotate_left
              · simp only [Act.put, List.setIfInBounds_toArray, List.set_cons_zero, List.set_cons_succ, i64_w, i32_w]
                rfl
              refine pure_ (i := 7) (N := some 165) (v := ?_) (a' := ?_) #[true, true, true, true, true, true, true, true, false, false, false] rfl rfl (any_of HT_.out (by kernel_rfl)) (fun _ _ _ h => h) (Or.inl ⟨by rfl, ?_⟩) ?_ ?_
              rotate_left
              · intro w'
                go_simp
                with_reducible rfl
              rotate_left
              · simp only [Act.put, List.setIfInBounds_toArray, List.set_cons_zero, List.set_cons_succ, i64_w, i32_w]
                rfl
              refine pure_ (i := 8) (N := some 166) (v := ?_) (a' := ?_) #[true, true, true, true, true, true, true, true, true, false, false] rfl rfl (any_of HT_.out (by kernel_rfl)) (fun _ _ _ h => h) (Or.inl ⟨by rfl, ?_⟩) ?_ ?_
              rotate_left
              · intro w'
                go_simp
                with_reducible rfl
              rotate_left
              · simp only [Act.put, List.setIfInBounds_toArray, List.set_cons_zero, List.set_cons_succ, i64_w, i32_w]
                rfl
              refine pure_ (i := 9) (N := some 167) (v := ?_) (a' := ?_) #[true, true, true, true, true, true, true, true, true, true, false] rfl rfl (any_of HT_.out (by kernel_rfl)) (fun _ _ _ h => h) (Or.inl ⟨by rfl, ?_⟩) ?_ ?_
              rotate_left
              · intro w'
                go_simp
                with_reducible rfl
              rotate_left
              · simp only [Act.put, List.setIfInBounds_toArray, List.set_cons_zero, List.set_cons_succ, i64_w, i32_w]
                rfl
              have hcl := hHeld.r3.at n (by rw [HPL.out]; exact HN.out) x HX.out; have hfr := hHeld.r3.fro n
              refine last_ (i := 10) (N := none) #[true, true, true, true, true, true, true, true, true, true, true] rfl rfl (one_of HT_.out (by kernel_rfl)) (by decide) (fun K hK => ?_)
              refine skip_ (w1 := (wq.setCell ⟨b3, n, none⟩ (.int .u64 (bits .and .u64 (IntKind.u64.wrap (x + y)) 4294967295)))) (by rfl) rfl (by go_simp; first | done | rfl) ?_
              refine hK.out _ _ ?_
              clear hK K
              have hQ : BM w (wq.setCell ⟨b3, n, none⟩ (.int .u64 (bits .and .u64 (IntKind.u64.wrap (x + y)) 4294967295))) b3 b4 b5 b6 b12 (Sx.part vs st (n + 1)) L vs := hHeld.add HX.out HY.out HUU.out
              generalize wq.setCell _ _ = wx at hQ ⊢
              refine done_ (done_of HT_.out (by kernel_rfl)) ?_
              clear hHeld hcl hfr
              go_wp2
              go_roundw
              case rel => exact ⟨n + 1, by omega, by go_num, ⟨hQ⟩⟩
              case measure => simp [intOf]; omega
            · have hlt' : decide ((n : Int) < 8) = false := by simp; omega
              obtain rfl : n = 8 := by omega
              have HR := Aside0.mk (show Sx.part vs st 8 = blk st W0 from by rw [← HV.out, HLW.out]; rfl)
              have HG3 := Aside0.mk (show wr.heap[b3]? = some (.cells (nums .u64 (blk st W0)).toArray 83 (0, 0)) from HR.out ▸ HB.out.r3)
              have HG6 := Aside0.mk (show wr.heap[b6]? = some (.cells (nums .u64 zero83).toArray 83 (0, 0)) from HB.out.r6)
              have HS8 := Aside0.mk (show (nums .u64 (blk st W0)).toArray.size = 8 from by rw [← HR.out]; simp [nums, part_len _ _ _ HH.out.1])
              have HB9 := Aside0.mk HB.out.below
              have HL6 := Aside0.mk HB.out.ne.2.2.1
              clear HB HR
              go_wp2_with (first
                | (with_reducible refine op_load rfl 83 _ rfl b3 rfl 83 _ _ HG3.out Try.underlying83 rfl 8 sz83 HS8.out ?_)
                | ((with_reducible refine op_store (w0 := w) (o := ⟨none, .store 83 (.tmp 6) (.tmp 168), _, _, _, _⟩) w.heap.size ?_ 83 (.tmp 6) (.tmp 168) ?_ b6 (nums .u64 (blk st W0)).toArray ?_ ?_ 83 _ HG6.out 8 sz83 HS8.out rfl (nums_all _ _) HB9.out HL6.out ?_); rfl; rfl; rfl; rfl; intro wf hf1 hf2 hf3))
              refine ret_cell rfl b6 rfl 83 _ _ hf1.out Try.underlying83 rfl 8 sz83 HS8.out rfl ?_
              exact ⟨rfl, hf3.out⟩
end Go.Proofs.Ytgpgblidplmchaa.Srb
namespace Go.Proofs.Ytgpgblidplmchaa.Spw
open Go.RowKit Go.Proofs.YtgpgblidplmchaaW.PrintWords Go.Proofs.YtgpgblidplmchaaW.PrintLast Go.Proofs.YtgpgblidplmchaaW.PrintMore
open Ag POct Sw Sk Sm Sx Sq Srb
set_option linter.unusedVariables false
set_option linter.unusedSimpArgs false
def By (l : List Int) : Prop := ∀ x ∈ l, 0 ≤ x ∧ x < 256
def mk4 (l : List Int) : Int := l.foldl (fun v b => v * 256 + b) 0
def wv (c : List Int) (i k : Nat) : Int := mk4 (((c.take i).drop (4 * k)).take 4)
def wrow (c : List Int) (i : Nat) : List Int := (List.range 64).map (wv c i)
theorem wrow_len (c : List Int) (i : Nat) : (wrow c i).length = 64 := by simp [wrow]
theorem wrow_zero (c : List Int) : wrow c 0 = List.replicate 64 0 := by
  apply List.ext_getElem
  · simp [wrow]
  · intro n h1 h2
    rw [List.getElem_replicate]
    simp [wrow, wv, mk4]
theorem wrow_get (c : List Int) (i q : Nat) (hq : q < 64) : (wrow c i).getD q 0 = wv c i q := by
  unfold wrow
  rw [List.getD_eq_getElem?_getD, List.getElem?_map, List.getElem?_range hq]
  rfl
theorem mk4_snoc (l : List Int) (x : Int) : mk4 (l ++ [x]) = mk4 l * 256 + x := by unfold mk4; rw [List.foldl_append]; rfl
theorem wv_step (c : List Int) (i : Nat) (hc : i < c.length) : wv c (i + 1) (i / 4) = wv c i (i / 4) * 256 + c.getD i 0 := by
  unfold wv
  have e : ((c.take (i + 1)).drop (4 * (i / 4))) = ((c.take i).drop (4 * (i / 4))) ++ [c.getD i 0] := by
    rw [List.take_succ_eq_append_getElem hc, List.drop_append_of_le_length (by rw [List.length_take]; omega), List.getD_eq_getElem?_getD, List.getElem?_eq_getElem hc]
    rfl
  have hl : ((c.take i).drop (4 * (i / 4))).length ≤ 3 := by rw [List.length_drop, List.length_take]; omega
  rw [e]
  generalize (c.take i).drop (4 * (i / 4)) = D at hl ⊢
  rw [List.take_of_length_le (l := D ++ [c.getD i 0]) (by rw [List.length_append, List.length_singleton]; omega), mk4_snoc, List.take_of_length_le (l := D) (by omega)]
theorem wv_other (c : List Int) (i k : Nat) (hc : i < c.length) (hk : k ≠ i / 4) : wv c (i + 1) k = wv c i k := by
  unfold wv
  congr 1
  rcases Nat.lt_or_ge k (i / 4) with h | h
  · rw [List.take_succ_eq_append_getElem hc, List.drop_append_of_le_length (by rw [List.length_take]; omega), List.take_append_of_le_length (by rw [List.length_drop, List.length_take]; omega)]
  · rw [List.drop_of_length_le (by rw [List.length_take]; omega), List.drop_of_length_le (by rw [List.length_take]; omega)]
theorem wrow_set (c : List Int) (i q : Nat) (hq : i / 4 = q) (hi : i < 64) (hc : c.length = 64) : (wrow c i).set q (wv c i q * 256 + c.getD i 0) = wrow c (i + 1) := by
  subst hq
  apply List.ext_getElem?
  intro k
  rw [List.getElem?_set]
  by_cases h : i / 4 = k
  · subst h
    rw [if_pos rfl, if_pos (by rw [wrow_len]; omega), ← wv_step c i (by omega)]
    unfold wrow
    rw [List.getElem?_map, List.getElem?_range (by omega)]
    rfl
  · rw [if_neg h]
    rcases Nat.lt_or_ge k 64 with hk | hk
    · unfold wrow
      rw [List.getElem?_map, List.getElem?_map, List.getElem?_range hk]
      simp only [Option.map_some]
      rw [wv_other c i k (by omega) (fun e => h e.symm)]
    · rw [List.getElem?_eq_none (by rw [wrow_len]; omega), List.getElem?_eq_none (by rw [wrow_len]; omega)]
theorem mk4_U {l : List Int} (h : By l) (hl : l.length ≤ 4) : U (mk4 l) := by
  unfold By at h
  match l, hl with
  | [], _ => exact ⟨by decide, by decide⟩
  | [a], _ => simp at h; unfold mk4 U; simp only [List.foldl_cons, List.foldl_nil]; omega
  | [a, b], _ => simp at h; unfold mk4 U; simp only [List.foldl_cons, List.foldl_nil]; omega
  | [a, b, c], _ => simp at h; unfold mk4 U; simp only [List.foldl_cons, List.foldl_nil]; omega
  | [a, b, c, d], _ => simp at h; unfold mk4 U; simp only [List.foldl_cons, List.foldl_nil]; omega
theorem wv_U {c : List Int} (h : By c) (i k : Nat) : U (wv c i k) :=
  mk4_U (fun x hx => h x (List.mem_of_mem_take (List.mem_of_mem_drop (List.mem_of_mem_take hx)))) (by rw [List.length_take]; omega)
theorem be_nat (a b c d : Nat) (ha : a < 256) (hb : b < 256) (hc : c < 256) (hd : d < 256) :
    bits .or .u32 (bits .or .u32 (bits .or .u32 (IntKind.u32.wrap (IntKind.u32.wrap (a : Int) * 16777216)) (IntKind.u32.wrap (IntKind.u32.wrap (b : Int) * 65536))) (IntKind.u32.wrap (IntKind.u32.wrap (c : Int) * 256))) (IntKind.u32.wrap (d : Int)) = ((((a * 256 + b) * 256 + c) * 256 + d : Nat) : Int) := by
  have e1 : IntKind.u32.wrap (IntKind.u32.wrap (a : Int) * 16777216) = ((a * 16777216 : Nat) : Int) := by simp only [IntKind.wrap_u32']; omega
  have e2 : IntKind.u32.wrap (IntKind.u32.wrap (b : Int) * 65536) = ((b * 65536 : Nat) : Int) := by simp only [IntKind.wrap_u32']; omega
  have e3 : IntKind.u32.wrap (IntKind.u32.wrap (c : Int) * 256) = ((c * 256 : Nat) : Int) := by simp only [IntKind.wrap_u32']; omega
  have e4 : IntKind.u32.wrap (d : Int) = ((d : Nat) : Int) := by simp only [IntKind.wrap_u32']; omega
  rw [e1, e2, e3, e4, u32_or_nat _ _ (by omega) (by omega), nat_join 24 _ _ (by omega) (by omega)]
  rw [u32_or_nat _ _ (by omega) (by omega), nat_join 16 _ _ (by omega) (by omega)]
  rw [u32_or_nat _ _ (by omega) (by omega), nat_join 8 _ _ (by omega) (by omega)]
  omega
theorem be_mk4 {c : List Int} (h : By c) (k : Nat) (hk : 4 * k + 4 ≤ c.length) : be c (4 * k) = mk4 ((c.drop (4 * k)).take 4) := by
  have g : ∀ j, j < c.length → ∃ n : Nat, c[j]? = some (n : Int) ∧ n < 256 := by
    intro j hj
    have := h _ (List.getElem_mem hj)
    exact ⟨c[j].toNat, by rw [List.getElem?_eq_getElem hj]; congr 1; omega, by omega⟩
  obtain ⟨n0, h0, b0⟩ := g (4 * k) (by omega)
  obtain ⟨n1, h1, b1⟩ := g (4 * k + 1) (by omega)
  obtain ⟨n2, h2, b2⟩ := g (4 * k + 2) (by omega)
  obtain ⟨n3, h3, b3⟩ := g (4 * k + 3) (by omega)
  have e : (c.drop (4 * k)).take 4 = [(n0 : Int), n1, n2, n3] := by
    apply List.ext_getElem?
    intro j
    rw [List.getElem?_take]
    rcases Nat.lt_or_ge j 4 with hj | hj
    · rw [if_pos hj, List.getElem?_drop]
      match j, hj with
      | 0, _ => exact h0
      | 1, _ => exact h1
      | 2, _ => exact h2
      | 3, _ => exact h3
    · rw [if_neg (by omega), List.getElem?_eq_none (by simp; omega)]
  rw [e]
  unfold be
  rw [h0, h1, h2, h3]
  simp only [Option.getD_some]
  rw [be_nat n0 n1 n2 n3 b0 b1 b2 b3]
  unfold mk4
  simp only [List.foldl_cons, List.foldl_nil]
  omega
theorem sched0_len (c : List Int) : (sched c 0).length = 16 := by simp [sched]
theorem wrow_full {c : List Int} (h : By c) (hc : c.length = 64) : wrow c 64 = pad64 (sched c 0) := by
  apply List.ext_getElem?
  intro k
  unfold pad64
  rcases Nat.lt_or_ge k 16 with hk | hk
  · rw [List.getElem?_append_left (by rw [sched0_len]; exact hk)]
    unfold wrow sched
    rw [List.getElem?_map, List.getElem?_map, List.getElem?_range (by omega), List.getElem?_range hk]
    simp only [Option.map_some]
    unfold wv
    rw [be_mk4 h k (by omega), List.take_of_length_le (i := 64) (by omega)]
  · rw [List.getElem?_append_right (by rw [sched0_len]; exact hk)]
    rcases Nat.lt_or_ge k 64 with hk2 | hk2
    · unfold wrow
      rw [List.getElem?_map, List.getElem?_range hk2, List.getElem?_replicate, if_pos (by rw [sched0_len]; omega)]
      simp only [Option.map_some]
      unfold wv
      rw [List.drop_of_length_le (by rw [List.length_take]; omega)]
      rfl
    · rw [List.getElem?_eq_none (by rw [wrow_len]; omega), List.getElem?_eq_none (by rw [List.length_replicate, sched0_len]; omega)]
theorem sched0_U {c : List Int} (h : By c) (hc : c.length = 64) : ∀ x ∈ sched c 0, U x := by
  intro x hx
  unfold sched at hx
  obtain ⟨i, hi, rfl⟩ := List.mem_map.1 hx
  have := List.mem_range.1 hi
  rw [be_mk4 h i (by omega)]
  exact mk4_U (fun x hx => h x (List.mem_of_mem_drop (List.mem_of_mem_take hx))) (by rw [List.length_take]; omega)
end Go.Proofs.Ytgpgblidplmchaa.Spw
