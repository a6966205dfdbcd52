/- An item found by its name: the closure, the search. -/
import Derived.Test.YtmcankeggbofhaaLr
import Derived.Laws.Cover1
namespace Go.Proofs.Ytmcankeggbofhaa.Fd
open Go.RowKit Go.Proofs.YtmcankeggbofhaaW.PrintWords Go.Proofs.YtmcankeggbofhaaW.PrintLast Go.Proofs.YtmcankeggbofhaaW.PrintMore
open It Nm Ag My Spc By Im Iw Ip Tk Tl Tg Ie Lr
set_option linter.unusedVariables false
set_option linter.unusedSimpArgs false
set_option maxRecDepth 100000
theorem less_trans : ∀ a b c : List UInt8, Op.bytesLess a b = true → Op.bytesLess b c = true → Op.bytesLess a c = true
  | [], [], c, h1, h2 => h2
  | [], y :: b, [], h1, h2 => by simp [Op.bytesLess] at h2
  | [], y :: b, z :: c, h1, h2 => by simp [Op.bytesLess]
  | x :: a, [], c, h1, h2 => by simp [Op.bytesLess] at h1
  | x :: a, y :: b, [], h1, h2 => by simp [Op.bytesLess] at h2
  | x :: a, y :: b, z :: c, h1, h2 => by
    have ih := less_trans a b c
    simp only [Op.bytesLess, Bool.or_eq_true, Bool.and_eq_true, decide_eq_true_eq, beq_iff_eq] at h1 h2 ⊢
    rcases h1 with h1 | ⟨rfl, h1⟩
    · rcases h2 with h2 | ⟨rfl, h2⟩
      · exact .inl (UInt8.lt_trans h1 h2)
      · exact .inl h1
    · rcases h2 with h2 | ⟨rfl, h2⟩
      · exact .inl h2
      · exact .inr ⟨rfl, ih h1 h2⟩
theorem less_irrefl : ∀ a : List UInt8, Op.bytesLess a a = false
  | [] => by simp [Op.bytesLess]
  | x :: a => by
    have ih := less_irrefl a
    have hx : ¬ x < x := by rw [UInt8.lt_iff_toNat_lt]; omega
    simp [Op.bytesLess, ih, hx]
/-- the name at i is not below s -/
def geP (l : List Itm) (s : ByteArray) (i : Nat) : Bool := !(Op.bytesLess (at_ l i).name.toList s.toList)
theorem asc_next {l : List Itm} (h : mayL l = true) (j : Nat) (hj : j + 1 < l.length) : Op.bytesLess (at_ l j).name.toList (at_ l (j + 1)).name.toList = true := by
  have hs := (By.may_all h).2 (j + 1) hj
  unfold stepB at hs
  simp only [Bool.and_eq_true, Bool.not_eq_true', Bool.and_eq_false_iff, decide_eq_false_iff_not, Nat.add_sub_cancel] at hs
  rcases hs.2 with h1 | h1
  · exact absurd (by omega) h1
  · rw [Rm.leS_not] at h1
    simpa using h1
theorem asc {l : List Itm} (h : mayL l = true) (i j : Nat) (hij : i < j) (hj : j < l.length) : Op.bytesLess (at_ l i).name.toList (at_ l j).name.toList = true := by
  induction j with
  | zero => omega
  | succ j ih =>
    have hn := asc_next h j hj
    by_cases he : i = j
    · subst he; exact hn
    · exact less_trans _ _ _ (ih (by omega) (by omega)) hn
theorem geP_mono {l : List Itm} (h : mayL l = true) (s : ByteArray) (a b : Nat) (hab : a ≤ b) (hb : b < l.length) (hp : geP l s a = true) : geP l s b = true := by
  by_cases he : a = b
  · subst he; exact hp
  · unfold geP at hp ⊢
    simp only [Bool.not_eq_true'] at hp ⊢
    cases hq : Op.bytesLess (at_ l b).name.toList s.toList with
    | false => rfl
    | true => rw [less_trans _ _ _ (asc h a b (by omega) hb) hq] at hp; cases hp
def isN (s : ByteArray) (x : Itm) : Bool := x.name.toList == s.toList
def findOut (l : List Itm) (s : ByteArray) : Itm × Int := if mayL l = true then (match l.find? (isN s) with | none => (item0, 5) | some x => (x, 0)) else (item0, 1)
theorem find_hit {l : List Itm} {s : ByteArray} (hm : mayL l = true) (j : Nat) (hj : j < l.length) (hq : isN s (at_ l j) = true) : findOut l s = (at_ l j, 0) := by
  have hf : l.find? (isN s) = some (at_ l j) := by
    rw [List.find?_eq_some_iff_getElem]
    refine ⟨hq, j, hj, (at_get l j hj).symm, fun k hk => ?_⟩
    have ha := asc hm k j hk hj
    unfold isN at hq ⊢
    rw [beq_iff_eq] at hq
    rw [← at_get l k (by omega)]
    simp only [Bool.not_eq_true', beq_eq_false_iff_ne]
    intro e
    rw [e, hq, less_irrefl] at ha
    cases ha
  unfold findOut
  rw [if_pos hm, hf]
theorem find_miss {l : List Itm} {s : ByteArray} (hm : mayL l = true) (h : ∀ j, j < l.length → isN s (at_ l j) = false) : findOut l s = (item0, 5) := by
  have hf : l.find? (isN s) = none := by
    rw [List.find?_eq_none]
    intro x hx
    obtain ⟨i, hi, rfl⟩ := List.mem_iff_getElem.1 hx
    have := h i hi
    rw [at_get l i hi] at this
    rw [this]; simp
  unfold findOut
  rw [if_pos hm, hf]
theorem miss_of {l : List Itm} {s : ByteArray} (hm : mayL l = true) (r : Nat) (h0 : ∀ t, t < r → geP l s t = false) (h1 : ∀ t, r ≤ t → t < l.length → geP l s t = true) (hr : r = l.length ∨ isN s (at_ l r) = false) : ∀ j, j < l.length → isN s (at_ l j) = false := by
  intro j hj
  have hge : ∀ t, isN s (at_ l t) = true → geP l s t = true := by
    intro t ht
    unfold isN at ht
    rw [beq_iff_eq] at ht
    unfold geP
    rw [ht, less_irrefl]; rfl
  cases hq : isN s (at_ l j) with
  | false => rfl
  | true =>
    exfalso
    have hg := hge j hq
    have hjr : r ≤ j := by
      rcases Nat.lt_or_ge j r with h | h
      · rw [h0 j h] at hg; cases hg
      · exact h
    rcases hr with hr | hr
    · omega
    · by_cases he : r = j
      · subst he; rw [hq] at hr; cases hr
      · have ha := asc hm r j (by omega) hj
        have hgr := h1 r (Nat.le_refl _) (by omega)
        unfold isN at hq
        rw [beq_iff_eq] at hq
        unfold geP at hgr
        rw [hq] at ha
        rw [ha] at hgr
        cases hgr
def fc1T : Bool × List (List Nat × List Nat) := (true, [([], []), ([], []), ([0, 1], [0, 1]), ([2], [2]), ([3], [3]), ([], []), ([4, 5], [4, 5]), ([6, 0, 1, 2, 3, 4, 5, 6], [6])])
def fc1B : List Nat := [0, 0, 3, 7, 15, 0, 63, 127]
theorem fc1tab : rtab .any (opsOf Try.f27 1) = fc1T := by kernel_rfl
theorem fc1bits : waitsOk fc1T.2 fc1B = true := by kernel_rfl
set_option maxHeartbeats 1600000 in
theorem closure_calls (p q : Addr) (A : Option Addr) (c : Nat) (l : List Itm) (s : ByteArray) (i : Nat) (hi : i < l.length) (w : World) (h1 : w.cell? p = some (.slice A l.length c)) (h2 : w.cell? q = some (.string s)) (hr : CI w A l) :
    Calls Try.prog 27 #[.int .i64 i, .pointer (some p), .pointer (some q)] w fun e w' => e = .returned (.bool (geP l s i)) ∧ Below w.heap.size w w' := by
  obtain ⟨ad, hA, _, hn, _⟩ := item_at hr i hi
  subst hA
  have HF := Aside0.mk (And.intro (fun W (hW : Below w.heap.size w W) => (hW.cell (World.block_lt_of_cell? w _ h1)).trans h1) (And.intro (fun W (hW : Below w.heap.size w W) => (hW.cell (World.block_lt_of_cell? w _ h2)).trans h2) (fun W (hW : Below w.heap.size w W) => (hW.cell (World.block_lt_of_cell? w _ hn)).trans hn)))
  have HG : Aside0 (geP l s i = !(Op.bytesLess l[i].name.toList s.toList)) := ⟨by unfold geP; rw [at_get l i hi]⟩
  obtain ⟨nm, hnm⟩ : ∃ nm, l[i].name = nm := ⟨_, rfl⟩
  rw [hnm] at HF HG
  clear h1 h2 hn hr hnm
  go_enter Try.func27, Try.ntmps27
  go_wp2_with fail
  refine start_ (n := 8) (S := (fun W_ => Below w.heap.size w W_)) (ds := []) #[false, false, false, false, false, false, false, false] (by kernel_rfl) rfl rfl (below_drew1 (Below.refl _ _)) (fun hHeld => ?_); refine with_tabW fc1tab fc1bits (fun HT_ HW_ => ?_)
  generalize w.drew = wq at hHeld ⊢
  refine take_ (i := 0) (N := some 5) (v := ?_) (a' := ?_) #[true, false, false, false, false, false, false, false] rfl rfl (take_ofW HT_.out HW_.out (by kernel_rfl)) (fun _ _ _ h => h) (Or.inl ⟨by rfl, ?_⟩) hHeld ?_ ?_
  rotate_left
  · intro w' hw'
    have hf0_ := HF.out.1 w' hw'
    go_simp
    with_reducible rfl
  rotate_left
  · simp only [Act.put, List.setIfInBounds_toArray, List.set_cons_zero, List.set_cons_succ, i64_w, i32_w]
    rfl
  refine pure_ (i := 1) (N := some 6) (v := ?_) (a' := ?_) #[true, true, false, false, false, false, false, false] rfl rfl (any_of HT_.out (by kernel_rfl)) (fun _ _ _ h => h) (Or.inl ⟨by rfl, ?_⟩) ?_ ?_
  rotate_left
  · intro w'
    go_simp
    with_reducible rfl
  rotate_left
  · simp only [Act.put, List.setIfInBounds_toArray, List.set_cons_zero, List.set_cons_succ, i64_w, i32_w]
    rfl
  refine pure_ (i := 2) (N := some 7) (v := ?_) (a' := ?_) #[true, true, true, false, false, false, false, false] rfl rfl (any_of HT_.out (by kernel_rfl)) (fun _ _ _ h => h) (Or.inl ⟨by rfl, ?_⟩) ?_ ?_
  rotate_left
  · intro w'
    go_simp
    with_reducible rfl
  rotate_left
  · simp only [Act.put, List.setIfInBounds_toArray, List.set_cons_zero, List.set_cons_succ, i64_w, i32_w]
    rfl
  refine pure_ (i := 3) (N := some 8) (v := ?_) (a' := ?_) #[true, true, true, true, false, false, false, false] rfl rfl (any_of HT_.out (by kernel_rfl)) (fun _ _ _ h => h) (Or.inl ⟨by rfl, ?_⟩) ?_ ?_
  rotate_left
  · intro w'
    go_simp
    with_reducible rfl
  rotate_left
  · simp only [Act.put, List.setIfInBounds_toArray, List.set_cons_zero, List.set_cons_succ, i64_w, i32_w]
    rfl
  refine take_ (i := 4) (N := some 9) (v := ?_) (a' := ?_) #[true, true, true, true, true, false, false, false] rfl rfl (take_ofW HT_.out HW_.out (by kernel_rfl)) (fun _ _ _ h => h) (Or.inl ⟨by rfl, ?_⟩) hHeld ?_ ?_
  rotate_left
  · intro w' hw'
    have hf0_ := HF.out.2.2 w' hw'
    go_simp
    with_reducible rfl
  rotate_left
  · simp only [Act.put, List.setIfInBounds_toArray, List.set_cons_zero, List.set_cons_succ, i64_w, i32_w]
    rfl
  refine take_ (i := 5) (N := some 10) (v := ?_) (a' := ?_) #[true, true, true, true, true, true, false, false] rfl rfl (take_ofW HT_.out HW_.out (by kernel_rfl)) (fun _ _ _ h => h) (Or.inl ⟨by rfl, ?_⟩) hHeld ?_ ?_
  rotate_left
  · intro w' hw'
    have hf0_ := HF.out.2.1 w' hw'
    go_simp
    with_reducible rfl
  rotate_left
  · simp only [Act.put, List.setIfInBounds_toArray, List.set_cons_zero, List.set_cons_succ, i64_w, i32_w]
    rfl
  refine pure_ (i := 6) (N := some 11) (v := ?_) (a' := ?_) #[true, true, true, true, true, true, true, false] rfl rfl (any_of HT_.out (by kernel_rfl)) (fun _ _ _ h => h) (Or.inl ⟨by rfl, ?_⟩) ?_ ?_
  rotate_left
  · intro w'
    go_simp
    with_reducible rfl
  rotate_left
  · simp only [Act.put, List.setIfInBounds_toArray, List.set_cons_zero, List.set_cons_succ, i64_w, i32_w]
    rfl
  refine pure_ (i := 7) (N := some 4) (v := ?_) (a' := ?_) #[true, true, true, true, true, true, true, true] rfl rfl (any_of HT_.out (by kernel_rfl)) (fun _ _ _ h => h) (Or.inl ⟨by rfl, ?_⟩) ?_ ?_
  rotate_left
  · intro w'
    go_simp
    with_reducible rfl
  rotate_left
  · simp only [Act.put, List.setIfInBounds_toArray, List.set_cons_zero, List.set_cons_succ, i64_w, i32_w]
    rfl
  refine done_ (done_of HT_.out (by kernel_rfl)) ?_
  clear HT_ HW_
  have HBq := Aside0.mk hHeld
  clear hHeld
  go_wp2_with fail
  go_ret
  exact ⟨by rw [HG.out]; rfl, HBq.out⟩
theorem op_shr1 {ops : Array Oper} {rest : List Oper} {o : Oper} {a : Act} {Q : Exit → Act → World → Prop} {W : World} (hgd : o.guard = none) (x : Operand) (ho : o.op = .binOp .shr 58 x (.const (.int .u64 1)) 58) (z m : Int) (hx : a.eval x = .int .u64 z) (hz : z / 2 = m)
    (h : wpList Try.prog ops Q rest (a.put o.dst (.int .u64 m)) W) : wpList Try.prog ops Q (o :: rest) a W := by
  refine Kd.event_run hgd ?_ h
  have he : a.eval (.const (.int .u64 1)) = .int .u64 1 := rfl
  subst hz
  simp only [execOp, ho, hx, he]
  go_simp
set_option maxHeartbeats 3200000 in
theorem search_calls (p q : Addr) (A : Option Addr) (c : Nat) (l : List Itm) (s : ByteArray) (w : World) (h1 : w.cell? p = some (.slice A l.length c)) (h2 : w.cell? q = some (.string s)) (hr : CI w A l) (hm : mayL l = true) :
    Calls Try.prog 26 #[.int .i64 l.length, .func (.func 27) #[] #[.pointer (some p), .pointer (some q)]] w fun e w' => ∃ r : Nat, r ≤ l.length ∧ (∀ t, t < r → geP l s t = false) ∧ (∀ t, r ≤ t → t < l.length → geP l s t = true) ∧ e = .returned (.int .i64 r) ∧ Below w.heap.size w w' := by
  have h64 := (By.may_all hm).1
  have HM := Aside0.mk (geP_mono hm s)
  have HF := Aside0.mk (fun i hi W (hW : Below w.heap.size w W) => closure_calls p q A c l s i hi W ((hW.cell (World.block_lt_of_cell? w _ h1)).trans h1) ((hW.cell (World.block_lt_of_cell? w _ h2)).trans h2) (Kd.C_below hr hW))
  clear h1 h2 hr
  obtain ⟨n, hn⟩ : ∃ n, Aside0 (n = l.length) := ⟨_, ⟨rfl⟩⟩
  rw [← hn.out] at HM HF h64 ⊢
  go_enter Try.func26, Try.ntmps26
  go_wp2_with fail
  go_loopw [5, 6] (fun s5 s6 wr => ∃ (lo hi : Nat), s5 = .int .i64 lo ∧ s6 = .int .i64 hi ∧ lo ≤ hi ∧ hi ≤ n ∧ Aside0 (Below w.heap.size w wr) ∧ Aside0 ((∀ t, t < lo → geP l s t = false) ∧ (∀ t, hi ≤ t → t < n → geP l s t = true))) (fun s5 s6 _ => (intOf s6).toNat - (intOf s5).toNat)
  case atStart => exact ⟨0, n, rfl, rfl, Nat.zero_le _, Nat.le_refl _, ⟨Below.refl _ _⟩, ⟨fun t ht => absurd ht (Nat.not_lt_zero _), fun t h1 h2 => absurd h2 (by omega)⟩⟩
  case round =>
    obtain ⟨lo, hi, rfl, rfl, hlh, hin, HB, HI⟩ := hrel
    by_cases hlt : lo < hi
    · have hmid : (lo + hi) / 2 < n := by omega
      have HC := Aside0.mk (HF.out ((lo + hi) / 2) hmid wr HB.out)
      obtain ⟨md, hmd⟩ : ∃ md : Nat, md = (lo + hi) / 2 := ⟨_, rfl⟩
      have hm1 : ((lo : Int) + (hi : Int)) / 2 = (md : Int) := by omega
      have hmb : lo ≤ md ∧ md < hi := by omega
      rw [← hmd] at HC hmid
      have hw1 : IntKind.i64.wrap (md : Int) = (md : Int) := by rw [IntKind.wrap_i64]; omega
      have hw2 : wrap64 (md : Int) = (md : Int) := w64_id (by omega) (by omega)
      clear hmd
      have HM1 := Aside0.mk hm1
      clear hm1
      cases hp : geP l s md with
      | false =>
        have HIn : Aside0 ((∀ t, t < md + 1 → geP l s t = false) ∧ (∀ t, hi ≤ t → t < n → geP l s t = true)) := ⟨fun t ht => (by
          cases h : geP l s t with
          | false => rfl
          | true => have := HM.out t md (by omega) hmid h; rw [hp] at this; cases this), HI.out.2⟩
        rw [hp] at HC
        clear hp
        go_wp2_with (first | (refine op_shr1 rfl (.tmp 15) rfl ((lo : Int) + (hi : Int)) (md : Int) rfl HM1.out ?_))
        refine HC.out.mono ?_
        rintro e w' ⟨rfl, hb⟩
        have HB' := Aside0.mk (below_step HB.out hb)
        go_wp2_with fail
        go_roundw
        case rel => exact ⟨md + 1, hi, by go_num, rfl, by omega, hin, HB', HIn⟩
        case measure => simp [intOf]; omega
      | true =>
        have HP := Aside0.mk hp
        rw [hp] at HC
        clear hp
        go_wp2_with (first | (refine op_shr1 rfl (.tmp 15) rfl ((lo : Int) + (hi : Int)) (md : Int) rfl HM1.out ?_))
        refine HC.out.mono ?_
        rintro e w' ⟨rfl, hb⟩
        have HB' := Aside0.mk (below_step HB.out hb)
        go_wp2_with fail
        go_roundw
        case rel => exact ⟨lo, md, rfl, rfl, by omega, by omega, HB', ⟨HI.out.1, fun t ht htn => HM.out md t ht htn HP.out⟩⟩
        case measure => simp [intOf]; omega
    · obtain rfl : hi = lo := by omega
      go_wp2_with fail
      go_ret
      exact ⟨hi, by have := hn.out; omega, HI.out.1, fun t h1 h2 => HI.out.2 t h1 h2, rfl, HB.out⟩
end Go.Proofs.Ytmcankeggbofhaa.Fd
