/- Which bytes are a manifest: both Takes answer alike. -/
import Derived.Test.YtdalckmbmcenbaaSr
import Derived.Test.YtdalckmbmcenbaaOctD
import Derived.Test.YtdalckmbmcenbaaRefB
namespace Go.Proofs.Ytdalckmbmcenbaa.Sp
open Go.RowKit Go.Proofs.YtdalckmbmcenbaaW.PrintWords Go.Proofs.YtdalckmbmcenbaaW.PrintMore
open Sn Ag Spc Sb St Sr OctC OctD
set_option linter.unusedVariables false
set_option linter.unusedSimpArgs false

theorem take_ge (r : List Int) (hb : ∀ x ∈ r, 0 ≤ x ∧ x < 256) : ∀ (i v : Nat), 0 < i → (take i v r).2.2 = 0 → (128 : Int) ≤ (take i v r).1 := by
  induction r with
  | nil => intro i v _ h; simp [take] at h
  | cons c r ih =>
    intro i v hi h
    have hc := hb c (by simp)
    simp only [take] at h ⊢
    by_cases hB : (i = 9 ∧ c > 1) ∨ (c = 0 ∧ i > 0)
    · rw [if_pos hB] at h; simp at h
    · rw [if_neg hB] at h ⊢
      by_cases h128 : c < 128
      · rw [if_pos h128]
        have hc0 : 1 ≤ c.toNat := by
          by_cases hz : c = 0
          · exact absurd (.inr ⟨hz, hi⟩) hB
          · omega
        have hp : 128 ^ 1 ≤ 128 ^ i := Nat.pow_le_pow_right (by omega) hi
        have := Nat.mul_le_mul_right (128 ^ i) hc0
        show (128 : Int) ≤ ((v + c.toNat * 128 ^ i : Nat) : Int)
        omega
      · rw [if_neg h128] at h ⊢
        exact ih (fun x hx => hb x (by simp [hx])) (i + 1) _ (by omega) h

/-- Bytes that are just one short text are its length and it. -/
theorem takeT_just (l : List Int) (hb : ∀ x ∈ l, 0 ≤ x ∧ x < 256) (lb : List Int) (n : Int) (h : takeT l = (lb, n, 0)) (hn : n = l.length) (hs : lb.length ≤ 64) : l = (lb.length : Int) :: lb := by
  unfold takeT at h
  have hbd := take_bounds l hb 0 0 (by omega) (by simp)
  by_cases h0 : (take 0 0 l).2.2 = 0
  · rw [if_pos h0] at h
    obtain ⟨v, a, e, hv, ha1, ha2, _⟩ := hbd.1 h0
    have hge := fun c r (hl : l = c :: r) => take_ge r (fun x hx => hb x (by rw [hl]; simp [hx])) 1 (0 + (c.toNat - 128) * 128 ^ 0) (by omega)
    by_cases h1 : (take 0 0 l).1 > 65536
    · rw [if_pos h1] at h; simp at h
    rw [if_neg h1] at h
    by_cases h2 : (l.length : Int) - (take 0 0 l).2.1 < (take 0 0 l).1
    · rw [if_pos h2] at h; simp at h
    rw [if_neg h2] at h
    rw [e] at h h1 h2
    simp only [Prod.mk.injEq, and_true] at h
    obtain ⟨hlb, hn2⟩ := h
    have hll : lb.length = v := by rw [← hlb]; simp; omega
    cases l with
    | nil => simp at ha2; omega
    | cons c r =>
      have hc := hb c (by simp)
      simp only [take] at e
      rw [if_neg (by omega)] at e
      by_cases h128 : c < 128
      · rw [if_pos h128] at e
        simp at e
        obtain ⟨e1, e2⟩ := e
        have ha : a = 1 := by omega
        subst ha
        simp at hlb hn2 hn
        have hvr : v = r.length := by omega
        have : lb = r := by rw [← hlb, hvr]; simp
        subst this
        congr 1; clear h0 hbd hge h1 h2 hlb hn2 hn ha1 ha2 e2 hb; omega
      · rw [if_neg h128] at e
        have := hge c r rfl (by rw [show take 1 (0 + (c.toNat - 128) * 128 ^ 0) r = take (0 + 1) (0 + (c.toNat - 128) * 128 ^ 0) r from rfl, e])
        rw [show take 1 (0 + (c.toNat - 128) * 128 ^ 0) r = take (0 + 1) (0 + (c.toNat - 128) * 128 ^ 0) r from rfl, e] at this
        simp at this; omega
  · rw [if_neg h0] at h
    simp at h
    exact absurd h.2.2 h0

theorem manB_bytes (r : List Int) (hr : ∀ x ∈ r, 0 ≤ x ∧ x < 256) (t : Int) (s : ByteArray) : ∀ x ∈ manB r t s, 0 ≤ x ∧ x < 256 := by
  intro x hx
  unfold manB at hx
  simp only [List.mem_append, List.mem_cons, List.not_mem_nil, or_false] at hx
  rcases hx with (((h | h) | h) | h) | h
  · rcases h with rfl | rfl <;> omega
  · exact hr x h
  · exact be_byte _ _ x h
  · exact leb_byte _ x h
  · exact bytesOf_byte s x h

theorem manB_drop (r : List Int) (hr : r.length = 32) (t : Int) (s : ByteArray) : (manB r t s).drop 42 = leb s.size ++ bytesOf s := by
  unfold manB
  have : ([83, 49] ++ r ++ be 8 t.toNat).length = 42 := by simp [hr, be_length]
  rw [List.append_assoc, ← this, List.drop_left]

/-- The root, the time and the label that stand in bytes. -/
def rootOf (b : List Int) : List Int := (b.take 34).drop 2
def timeOf (b : List Int) : Int := (val 0 ((b.drop 34).take 8) : Nat)
def isB (b : List Int) : Prop := 43 ≤ b.length ∧ mayB (wrap64 (timeOf b)) (strOfNums (b.drop 43)) = true ∧ manB (rootOf b) (wrap64 (timeOf b)) (strOfNums (b.drop 43)) = b

theorem ref_no (b : List Int) (hby : ∀ x ∈ b, 0 ≤ x ∧ x < 256) (h : ¬ isB b) (A : Option Addr) (c : Nat) (w : World) (hr : CB w A b) (hc : b.length ≤ c) (hmx : b.length ≤ 100000) :
    Calls Try.prog 14 #[.slice A b.length c] w fun e w' => e = .returned (.tuple #[.agg man0, .int .i64 4]) ∧ Below w.heap.size w w' := by
  by_cases hl : b.length < 43
  · exact ref_short A c b w hr hc hmx hl
  have hat := Aside0.mk (RefB.ref_at_ok 40 b 34 8 hby (by omega) (by omega) (by omega) (by omega) (by omega))
  cases hm : mayB (wrap64 (timeOf b)) (strOfNums (b.drop 43)) with
  | false => exact ref_err A c b w hr hc hmx (by omega) _ _ hat hm
  | true => exact ref_diff A c b w hr hc hmx (by omega) _ _ hat hm (fun he => h ⟨by omega, hm, he⟩) hby (manB_bytes _ (fun x hx => hby x (List.mem_of_mem_take (List.mem_of_mem_drop hx))) _ _)

theorem rootOf_len (b : List Int) (h : 34 ≤ b.length) : (rootOf b).length = 32 := by simp [rootOf]; omega

theorem time_le (b : List Int) (hby : ∀ x ∈ b, 0 ≤ x ∧ x < 256) (hl : 42 ≤ b.length) : 0 ≤ timeOf b ∧ timeOf b < 18446744073709551616 := by
  have := val_lt ((b.drop 34).take 8) 0 (fun x hx => hby x (List.mem_of_mem_drop (List.mem_of_mem_take hx)))
  have hlen : ((b.drop 34).take 8).length = 8 := by simp; omega
  rw [hlen] at this
  unfold timeOf
  omega

def Alike (b : List Int) : Prop :=
    ∃ (r : List Int) (t : Int) (s : ByteArray) (e : Int), r.length = 32 ∧ (isB b → r = rootOf b ∧ t = timeOf b ∧ s = strOfNums (b.drop 43) ∧ e = 0) ∧ (¬ isB b → e = 4) ∧
      (∀ (A : Option Addr) (c : Nat) (w : World), CB w A b → b.length ≤ c → Calls Try.prog 13 #[.slice A b.length c] w fun e' w' => e' = .returned (.tuple #[.agg (man r t s), .int .i64 e]) ∧ Below w.heap.size w w') ∧
      (∀ (A : Option Addr) (c : Nat) (w : World), CB w A b → b.length ≤ c → Calls Try.prog 14 #[.slice A b.length c] w fun e' w' => e' = .returned (.tuple #[.agg (man r t s), .int .i64 e]) ∧ Below w.heap.size w w')

/-- Both Takes answer alike. -/
theorem both (b : List Int) (hby : ∀ x ∈ b, 0 ≤ x ∧ x < 256) (hmx : b.length ≤ 100000) : Alike b := by
  have fin : ¬ isB b → (∀ (A : Option Addr) (c : Nat) (w : World), CB w A b → b.length ≤ c → Calls Try.prog 13 #[.slice A b.length c] w fun e' w' => e' = .returned (.tuple #[.agg man0, .int .i64 4]) ∧ Below w.heap.size w w') → Alike b := fun hn h =>
    ⟨List.replicate 32 0, 0, ⟨#[]⟩, 4, by simp, fun h => absurd h hn, fun _ => rfl, h, fun A c w hr hc => ref_no b hby hn A c w hr hc hmx⟩
  by_cases h34 : b.length < 34
  · exact fin (fun h => by have := h.1; omega) (fun A c w hr hc => take_short A c b w hr hc hmx h34)
  by_cases hpre : b.take 2 = [83, 49]
  rotate_left
  · exact fin (fun h => hpre (by rw [← h.2.2]; rfl)) (fun A c w hr hc => take_prefix A c b w hr hc hmx (by omega) hpre hby)
  by_cases h42 : b.length < 42
  · have hat := Aside0.mk (OctA.at_short 40 b 34 8 (by omega) (by omega) (by omega) (by omega) (by omega) (by omega))
    exact fin (fun h => by have := h.1; omega) (fun A c w hr hc => take_at A c b w hr hc hmx (by omega) hpre _ _ hat rfl)
  have hat := Aside0.mk (OctA.at_ok 40 b 34 8 hby (by omega) (by omega) (by omega) (by omega) (by omega))
  obtain ⟨ht0, ht1⟩ := time_le b hby (by omega)
  have hat : Aside0 (POct.octet_At.f 40 b 34 8 = some (timeOf b, 0)) := hat
  by_cases hbig : 9223372036854775807 < timeOf b
  · refine fin (fun h => ?_) (fun A c w hr hc => take_time A c b w hr hc hmx (by omega) hpre _ hat (by simpa using hbig))
    have h1 := (may_parts h.2.1).1
    unfold wrap64 at h1
    omega
  have htv : decide (9223372036854775807 < timeOf b) = false := by simpa using hbig
  have hwt : wrap64 (timeOf b) = timeOf b := w64_id (by omega) (by omega)
  have hb42 : ∀ x ∈ b.drop 42, 0 ≤ x ∧ x < 256 := fun x hx => hby x (List.mem_of_mem_drop hx)
  have htx := takeText_ok 40 (b.drop 42) hb42 (by simp; omega) (by omega)
  have hT : isB b → takeT (b.drop 42) = (b.drop 43, (b.length : Int) - 42, 0) ∧ (b.drop 43).length ≤ 64 := fun h => by
    obtain ⟨h43, hm, he⟩ := h
    have hs64 := (may_parts hm).2.1
    have hsz : (strOfNums (b.drop 43)).size = (b.drop 43).length := strOfNums_size _
    have hd := manB_drop (rootOf b) (rootOf_len b (by omega)) (wrap64 (timeOf b)) (strOfNums (b.drop 43))
    rw [he, bytesOf_str _ (fun x hx => hby x (List.mem_of_mem_drop hx)), hsz] at hd
    have := takeT_text (b.drop 43) [] (by omega)
    rw [List.append_nil, ← hd] at this
    have hll := congrArg List.length hd
    simp at hll
    refine ⟨?_, by omega⟩
    rw [this]
    simp
    have := leb_small (v := b.length - 43) (by simp at hsz; omega)
    rw [this]; simp; omega
  obtain ⟨lb, n7, e7, hv⟩ : ∃ lb n7 e7, takeT (b.drop 42) = (lb, n7, e7) := ⟨_, _, _, rfl⟩
  rw [hv] at htx hT
  have htx_ := Aside0.mk htx
  by_cases he7 : e7 = 0
  rotate_left
  · exact fin (fun h => he7 (by have := (hT h).1; simp at this; exact this.2.2)) (fun A c w hr hc => take_text A c b w hr hc hmx (by omega) hpre _ hat htv lb n7 e7 htx_ (by simpa using he7))
  subst he7
  have hnb : 0 ≤ n7 ∧ n7 ≤ 200000 ∧ lb.length ≤ 200000 := by
    have hbd := take_bounds (b.drop 42) hb42 0 0 (by omega) (by simp)
    unfold takeT at hv
    by_cases h0 : (take 0 0 (b.drop 42)).2.2 = 0
    · rw [if_pos h0] at hv
      obtain ⟨v, a, e, hv1, ha1, ha2, _⟩ := hbd.1 h0
      by_cases h1 : (take 0 0 (b.drop 42)).1 > 65536
      · rw [if_pos h1] at hv; simp at hv
      rw [if_neg h1] at hv
      by_cases h2 : ((b.drop 42).length : Int) - (take 0 0 (b.drop 42)).2.1 < (take 0 0 (b.drop 42)).1
      · rw [if_pos h2] at hv; simp at hv
      rw [if_neg h2] at hv
      rw [e] at hv h1 h2
      simp only [Prod.mk.injEq, and_true] at hv
      have hdl : (b.drop 42).length ≤ 100000 := by simp; omega
      refine ⟨by omega, by omega, ?_⟩
      rw [← hv.1]; simp; omega
    · rw [if_neg h0] at hv; simp at hv; exact absurd hv.2.2 h0
  by_cases hlong : 42 + n7 = (b.length : Int)
  rotate_left
  · exact fin (fun h => hlong (by have := (hT h).1; simp at this; omega)) (fun A c w hr hc => take_long A c b w hr hc hmx (by omega) hpre _ hat htv lb n7 htx_ hnb.1 hnb.2.1 (by simpa using hlong))
  have hlong' : (42 + n7 != (b.length : Int)) = false := by simpa using hlong
  cases hmay : mayB (timeOf b) (strOfNums lb) with
  | false =>
    refine fin (fun h => ?_) (fun A c w hr hc => take_may A c b w hr hc hmx (by omega) hpre _ hat htv lb n7 htx_ hnb.1 hnb.2.1 hlong' ht0 hnb.2.2 hmay)
    have h1 := (hT h).1
    simp at h1
    have h2 := h.2.1
    rw [hwt, ← h1.1, hmay] at h2
    exact absurd h2 (by simp)
  | true =>
    have hlb : lb.length ≤ 64 := by have := (may_parts hmay).2.1; rw [strOfNums_size] at this; exact this
    have hj := takeT_just (b.drop 42) hb42 lb n7 hv (by simp; omega) hlb
    have h43 : b.drop 43 = lb := by rw [show b.drop 43 = (b.drop 42).drop 1 by rw [List.drop_drop], hj]; rfl
    have h43l : 43 ≤ b.length := by have := congrArg List.length hj; simp at this; omega
    have heq : manB (rootOf b) (wrap64 (timeOf b)) (strOfNums (b.drop 43)) = b := by
      rw [hwt, h43]
      unfold manB
      rw [strOfNums_size, leb_small (by omega), bytesOf_str lb (fun x hx => hby x (by rw [← h43] at hx; exact List.mem_of_mem_drop hx))]
      have e8 : be 8 (timeOf b).toNat = (b.drop 34).take 8 := by
        have := be_val ((b.drop 34).take 8) 0 (fun x hx => hby x (List.mem_of_mem_drop (List.mem_of_mem_take hx)))
        rw [show ((b.drop 34).take 8).length = 8 by simp; omega] at this
        unfold timeOf; simpa using this
      rw [e8, ← hpre]
      unfold rootOf
      rw [List.append_assoc, List.append_assoc, List.append_assoc, show [(lb.length : Int)] ++ lb = b.drop 42 by rw [hj]; rfl]
      rw [show b.drop 42 = (b.drop 34).drop 8 by rw [List.drop_drop], List.take_append_drop]
      rw [show b.take 2 = (b.take 34).take 2 by rw [List.take_take]; rfl, ← List.append_assoc, List.take_append_drop, List.take_append_drop]
    have his : isB b := ⟨h43l, by rw [hwt, h43]; exact hmay, heq⟩
    have hat2 := Aside0.mk (RefB.ref_at_ok 40 b 34 8 hby (by omega) (by omega) (by omega) (by omega) (by omega))
    refine ⟨rootOf b, timeOf b, strOfNums lb, 0, rootOf_len b (by omega), fun _ => ⟨rfl, rfl, by rw [h43], rfl⟩, fun h => absurd his h, fun A c w hr hc => take_yes A c b w hr hc hmx (by omega) hpre _ hat htv lb n7 htx_ hnb.1 hnb.2.1 hlong' ht0 hnb.2.2 hmay, fun A c w hr hc => ?_⟩
    have := ref_yes A c b w hr hc hmx h43l (timeOf b) 0 hat2 his.2.1 heq
    rw [h43, hwt] at this
    exact this
end Go.Proofs.Ytdalckmbmcenbaa.Sp
