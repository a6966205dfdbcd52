/- A manifest's bytes: the program's and the document's answer write the same. -/
import Derived.Test.YtdalckmbmcenbaaSn
import Derived.Test.YtdalckmbmcenbaaAg
import Derived.Test.YtdalckmbmcenbaaOctD
import Derived.Test.YtdalckmbmcenbaaRefA
namespace Go.Proofs.Ytdalckmbmcenbaa.Sb
open Go.RowKit Go.Proofs.YtdalckmbmcenbaaW.PrintWords Go.Proofs.YtdalckmbmcenbaaW.PrintLast Go.Proofs.YtdalckmbmcenbaaW.PrintMore
open Sn Ag Spc
set_option linter.unusedVariables false
set_option linter.unusedSimpArgs false

def manB (r : List Int) (t : Int) (s : ByteArray) : List Int := [83, 49] ++ r ++ be 8 t.toNat ++ leb s.size ++ bytesOf s
theorem man_all (r : List Int) (t : Int) (s : ByteArray) : (man r t s).all (·.oneCell') = true := by
  unfold man nums
  rw [Array.all_eq_true_iff_forall_mem]
  intro x hx
  simp only [List.mem_toArray, List.mem_append, List.mem_map, List.mem_cons, List.not_mem_nil, or_false] at hx
  rcases hx with ⟨y, _, rfl⟩ | rfl | rfl <;> rfl
theorem info25 : (Try.prog.info? 25).map (·.size) = some 34 := by kernel_rfl
theorem may_parts {t : Int} {s : ByteArray} (h : mayB t s = true) : 0 ≤ t ∧ s.size ≤ 64 ∧ fairB s = true := by
  unfold mayB at h
  simp only [Bool.and_eq_true, decide_eq_true_eq] at h
  exact ⟨h.1.1, h.1.2, h.2⟩

set_option maxHeartbeats 1600000 in
theorem bytes_no (r : List Int) (t : Int) (s : ByteArray) (w : World) (hr : r.length = 32) (hs : s.size ≤ 9223372036854775807) (hm : mayB t s = false) :
    Calls Try.prog 7 #[.agg (man r t s)] w fun e w' => e = .returned (.tuple #[.slice none 0 0, .int .i64 1]) ∧ Below w.heap.size w w' := by
  have hg := Aside0.mk (heap_alloc_new w (.cells (man r t s) 25))
  have HM := Aside0.mk hm
  have hsz := Aside0.mk (man_size r t s hr)
  have HB := Aside0.mk ((Below.refl w.heap.size w).alloc (Nat.le_refl _) (.cells (man r t s) 25))
  clear hm
  go_enter Try.func7, Try.ntmps7
  go_wp2_with (with_reducible refine wpList_load_row rfl 25 (.tmp 1) rfl w.heap.size rfl 25 (man r t s) (0, 0) _ hg.out Try.underlying25 rfl (by rw [hsz.out]; exact info25) ?_)
  refine (may_calls r t s _ hr hs).mono ?_
  rintro e1 w1 ⟨rfl, hb1⟩
  have HB1 := Aside0.mk (below_step HB.out hb1)
  have hm := HM.out
  go_wp2_with fail
  go_ret2
  exact ⟨rfl, HB1.out⟩

theorem lit_const (W : World) (a b : Int) (fr : Nat × Nat) : CB (W.alloc (.cells #[.int .u8 a, .int .u8 b] 5 fr)) (some ⟨W.heap.size, 0, none⟩) [a, b] := by
  refine CB.of_cells (by simp) fun j hj => ?_
  rw [cell_of_row _ _ _ _ _ _ (heap_alloc_new W _)]
  have : j = 0 ∨ j = 1 := by simp at hj; omega
  rcases this with rfl | rfl <;> rfl
theorem man_root (W : World) (g : Nat) (r : List Int) (t : Int) (s : ByteArray) (hr : r.length = 32) (h : W.heap[g]? = some (.cells (man r t s) 25 (0, 0))) : CB W (some ⟨g, 0, none⟩) r := by
  refine CB.of_block h (by omega) fun j hj => ?_
  unfold man
  rw [Nat.zero_add, List.getElem?_toArray, List.getElem?_append_left (by simp [nums]; omega)]
  simp [nums, List.getElem?_eq_getElem hj, List.getD_eq_getElem?_getD]
theorem put8 (l : List Int) (t : Int) (h0 : 0 ≤ t) (h1 : t ≤ 9223372036854775807) (hl : l.length ≤ 100000) : POct.octet_Put.f 40 l t 8 = some (l ++ be 8 t.toNat, 0) := by
  obtain ⟨t, rfl⟩ := Int.eq_ofNat_of_zero_le h0
  have := OctA.put_ok 40 l t 8 (by omega) (by omega) (by omega) (by omega) (by omega)
  rw [if_pos (by omega)] at this
  exact this
set_option maxHeartbeats 1600000 in
theorem bytes_yes (r : List Int) (t : Int) (s : ByteArray) (w : World) (hr : r.length = 32) (ht : t ≤ 9223372036854775807) (hm : mayB t s = true) :
    Calls Try.prog 7 #[.agg (man r t s)] w fun e w' => ∃ v, e = .returned (.tuple #[v, .int .i64 0]) ∧ RB w' w.heap.size v (manB r t s) ∧ Below w.heap.size w w' := by
  have hg := Aside0.mk (heap_alloc_new w (.cells (man r t s) 25))
  obtain ⟨ht0, hs64, _⟩ := may_parts hm
  have HM := Aside0.mk hm
  have hsz := Aside0.mk (man_size r t s hr)
  have HB := Aside0.mk ((Below.refl w.heap.size w).alloc (Nat.le_refl _) (.cells (man r t s) 25))
  clear hm
  go_enter Try.func7, Try.ntmps7
  go_wp2_with (with_reducible refine wpList_load_row rfl 25 (.tmp 1) rfl w.heap.size rfl 25 (man r t s) (0, 0) _ hg.out Try.underlying25 rfl (by rw [hsz.out]; exact info25) ?_)
  refine (may_calls r t s _ hr (by omega)).mono ?_
  rintro e1 w1 ⟨rfl, hb1⟩
  obtain ⟨W0, hW0, hg0, hgl⟩ : ∃ W0, Aside0 (Below w.heap.size w W0 ∧ Below W0.heap.size W0 w1) ∧ Aside0 (W0.heap[w.heap.size]? = some (.cells (man r t s) 25 (0, 0))) ∧ Aside0 (w.heap.size < W0.heap.size) := ⟨_, ⟨HB.out, hb1⟩, hg, ⟨by simp⟩⟩
  have hW1 := Aside0.mk hW0.out.2
  have hg1 := Aside0.mk ((hW1.out.block _ hgl.out).trans hg0.out)
  clear HB hg hb1
  have hm := HM.out
  have kc := fun (w : World) (C : Array Value) (n c : Nat) => Lib.run_convert_bytes_const (P := Try.prog) w 27 5 C n c Try.underlying27 Try.underlying5
  have hk := Aside0.mk (show CB (w1.alloc (.cells #[.int .u8 83, .int .u8 49] 5 (2, 3))) (some ⟨w1.heap.size, 0, none⟩) [83, 49] from lit_const w1 83 49 (2, 3))
  have hR := Aside0.mk (show CB (w1.alloc (.cells #[.int .u8 83, .int .u8 49] 5 (2, 3))) (some ⟨w.heap.size, 0, none⟩) r from Kd.C_below (man_root w1 w.heap.size r t s hr hg1.out) ((Below.refl _ _).alloc (Nat.le_refl _) _))
  have HB2 := Aside0.mk (hW1.out.alloc hW1.out.size (.cells #[.int .u8 83, .int .u8 49] 5 (2, 3)))
  go_wp2_with (at_builtin; refine app_grows (w0 := W0) W0.heap.size rfl (.tmp 9) (.tmp 11) 27 rfl Try.underlying27 POct.info5 [83, 49] r _ 2 _ 32 rfl (by rw [hr]; rfl) hk.out (fun h => by cases h) hR.out (by rw [hr]; decide) (by omega) HB2.out HB2.out.size (by rw [hr]; decide) ?_; intro z1 A1 c1 w2 hz1 hc1 ho1 hB1; have hg2 := Aside0.mk ((hB1.out.block _ hgl.out).trans hg0.out); have k32 : w2.cell? ⟨w.heap.size, 32, none⟩ = some (.int .i64 t) := (by rw [blk_cell hg2.out, man_time r t s hr]))
  obtain ⟨z2, hz2, f2⟩ : ∃ z2, Aside0 (z2 = z1 ++ be 8 t.toNat) ∧ Aside0 (POct.octet_Put.f 40 z1 t 8 = some (z2, 0)) := ⟨_, ⟨rfl⟩, ⟨put8 z1 t ht0 ht (by rw [hz1.out]; simp [hr])⟩⟩
  refine (POct.octet_Put.calls 40 _ _ z1 t 8 z2 0 w2 (Kd.R_reads' ho1.out).2.2 hc1.out f2.out).mono ?_
  rintro e3 w3 ⟨v3, rfl, ho3, hb3⟩
  obtain ⟨A3, c3, rfl, hc3, _⟩ := Kd.R_reads ho3
  have HC3 := Aside0.mk hc3
  have hB3 := Aside0.mk (below_step hB1.out hb3)
  have hg3 := Aside0.mk ((hB3.out.block _ hgl.out).trans hg0.out)
  have HO3 := Aside0.mk ho3
  clear hB1 hg2 k32 ho1 hc1 hb3 ho3 hc3 kc hk hR HB2 hg1 hW1
  have k33 : w3.cell? ⟨w.heap.size, 33, none⟩ = some (.string s) := by rw [blk_cell hg3.out, man_label r t s hr]
  obtain ⟨bs, hbs⟩ : ∃ bs, Aside0 (bs = bytesOf s) := ⟨_, ⟨rfl⟩⟩
  have kb := bytes_run (P := Try.prog) 9 27 Try.underlying9 Try.underlying27 Try.underlying5 s bs hbs.out
  go_wp2_with fail
  obtain ⟨z4, hz4, f4⟩ : ∃ z4, Aside0 (z4 = z2 ++ leb bs.length ++ bs) ∧ Aside0 (POct.octet_Text.f 40 z2 bs = some (z4, 0)) := ⟨_, ⟨rfl⟩, ⟨OctC.text_ok 40 z2 bs (by rw [hbs.out, bytesOf_length]; omega) (by rw [hz2.out, hz1.out]; simp [hr, be_length]) (by omega)⟩⟩
  have hBb := Aside0.mk (bytes_below hB3.out hB3.out.size 5 s)
  have hw3 := Aside0.mk (bytes_below (Below.refl w3.heap.size w3) (Nat.le_refl _) 5 s)
  refine (POct.octet_Text.calls 40 _ _ z2 _ _ bs z4 0 _ (Kd.C_below (Kd.R_reads' HO3.out).2.2 hw3.out) HC3.out (bytes_C w3 s bs hbs.out (by omega)) (bytes_cap w3 s bs hbs.out) f4.out).mono ?_
  rintro e5 w5 ⟨v5, rfl, ho5, hb5⟩
  have hz := Aside0.mk (show z4 = manB r t s by rw [hz4.out, hz2.out, hz1.out, hbs.out, bytesOf_length]; simp [manB])
  have HO5 := Aside0.mk ho5
  have hB5 := Aside0.mk (below_step hBb.out hb5)
  clear ho5 hb5 k33 kb
  go_wp2_with fail
  go_ret2
  exact ⟨v5, rfl, by rw [← hz.out]; exact Kd.R_lower HO5.out (Nat.le_trans (Nat.le_trans hW0.out.1.size hB3.out.size) hw3.out.size), below_step hW0.out.1 hB5.out⟩

theorem info22 : Try.prog.underlying 23 = some (.array 32 5) := by kernel_rfl
set_option maxHeartbeats 1600000 in
theorem ref_bytes_no (r : List Int) (t : Int) (s : ByteArray) (w : World) (hr : r.length = 32) (hs : s.size ≤ 9223372036854775807) (hm : mayB t s = false) :
    Calls Try.prog 8 #[.agg (man r t s)] w fun e w' => e = .returned (.tuple #[.slice none 0 0, .int .i64 1]) ∧ Below w.heap.size w w' := by
  have hg := Aside0.mk (heap_alloc_new w (.cells (man r t s) 25))
  have HM := Aside0.mk hm
  have hsz := Aside0.mk (man_size r t s hr)
  have HB := Aside0.mk ((Below.refl w.heap.size w).alloc (Nat.le_refl _) (.cells (man r t s) 25))
  clear hm
  go_enter Try.func8, Try.ntmps8
  go_wp2_with (with_reducible refine wpList_load_row rfl 25 (.tmp 1) rfl w.heap.size rfl 25 (man r t s) (0, 0) _ hg.out Try.underlying25 rfl (by rw [hsz.out]; exact info25) ?_)
  refine (ref_may_calls r t s _ hr hs).mono ?_
  rintro e1 w1 ⟨rfl, hb1⟩
  have HB1 := Aside0.mk (below_step HB.out hb1)
  have hm := HM.out
  go_wp2_with fail
  go_ret2
  exact ⟨rfl, HB1.out⟩

theorem eight_ok (t : Int) (h0 : 0 ≤ t) (h1 : t ≤ 18446744073709551615) : POct.cofferref1_Eight.f 40 t = some (be 8 t.toNat) := by
  obtain ⟨t, rfl⟩ := Int.eq_ofNat_of_zero_le h0
  have := RefA.ref_put_ok 40 [] t 8 (by omega) (by omega) (by omega) (by simp) (by omega)
  rw [if_pos (by omega)] at this
  unfold POct.cofferref1_Eight.f
  rw [show POct.cofferref1_Put.f 40 [] (t : Int) 8 = some ([] ++ be 8 t, 0) from this]
  simp

set_option maxHeartbeats 3200000 in
theorem ref_bytes_yes (r : List Int) (t : Int) (s : ByteArray) (w : World) (hr : r.length = 32) (ht : t ≤ 9223372036854775807) (hm : mayB t s = true) :
    Calls Try.prog 8 #[.agg (man r t s)] w fun e w' => ∃ v, e = .returned (.tuple #[v, .int .i64 0]) ∧ RB w' w.heap.size v (manB r t s) ∧ Below w.heap.size w w' := by
  have hg := Aside0.mk (heap_alloc_new w (.cells (man r t s) 25))
  obtain ⟨ht0, hs64, _⟩ := may_parts hm
  have HM := Aside0.mk hm
  have hsz := Aside0.mk (man_size r t s hr)
  have HB := Aside0.mk ((Below.refl w.heap.size w).alloc (Nat.le_refl _) (.cells (man r t s) 25))
  clear hm
  go_enter Try.func8, Try.ntmps8
  go_wp2_with (with_reducible refine wpList_load_row rfl 25 (.tmp 1) rfl w.heap.size rfl 25 (man r t s) (0, 0) _ hg.out Try.underlying25 rfl (by rw [hsz.out]; exact info25) ?_)
  refine (ref_may_calls r t s _ hr (by omega)).mono ?_
  rintro e1 w1 ⟨rfl, hb1⟩
  obtain ⟨W0, hW0, hg0, hgl⟩ : ∃ W0, Aside0 (Below w.heap.size w W0 ∧ Below W0.heap.size W0 w1) ∧ Aside0 (W0.heap[w.heap.size]? = some (.cells (man r t s) 25 (0, 0))) ∧ Aside0 (w.heap.size < W0.heap.size) := ⟨_, ⟨HB.out, hb1⟩, hg, ⟨by simp⟩⟩
  have hW1 := Aside0.mk hW0.out.2
  have hg1 := Aside0.mk ((hW1.out.block _ hgl.out).trans hg0.out)
  clear HB hg hb1
  have hm := HM.out
  have kc := fun (w : World) (C : Array Value) (n c : Nat) => Lib.run_convert_bytes_const (P := Try.prog) w 27 5 C n c Try.underlying27 Try.underlying5
  have hk := Aside0.mk (show CB (w1.alloc (.cells #[.int .u8 83, .int .u8 49] 5 (2, 3))) (some ⟨w1.heap.size, 0, none⟩) [83, 49] from lit_const w1 83 49 (2, 3))
  have hR := Aside0.mk (show CB (w1.alloc (.cells #[.int .u8 83, .int .u8 49] 5 (2, 3))) (some ⟨w.heap.size, 0, none⟩) r from Kd.C_below (man_root w1 w.heap.size r t s hr hg1.out) ((Below.refl _ _).alloc (Nat.le_refl _) _))
  have HB2 := Aside0.mk (hW1.out.alloc hW1.out.size (.cells #[.int .u8 83, .int .u8 49] 5 (2, 3)))
  go_wp2_with (at_builtin; refine app_grows (w0 := W0) W0.heap.size rfl (.tmp 9) (.tmp 11) 27 rfl Try.underlying27 POct.info5 [83, 49] r _ 2 _ 32 rfl (by rw [hr]; rfl) hk.out (fun h => by cases h) hR.out (by rw [hr]; decide) (by omega) HB2.out HB2.out.size (by rw [hr]; decide) ?_; intro z1 A1 c1 w2 hz1 hc1 ho1 hB1; have hg2 := Aside0.mk ((hB1.out.block _ hgl.out).trans hg0.out); have k32 : w2.cell? ⟨w.heap.size, 32, none⟩ = some (.int .i64 t) := (by rw [blk_cell hg2.out, man_time r t s hr]))
  obtain ⟨b8, hb8, f2⟩ : ∃ b8, Aside0 (b8 = be 8 t.toNat) ∧ Aside0 (POct.cofferref1_Eight.f 40 t = some b8) := ⟨_, ⟨rfl⟩, ⟨eight_ok t ht0 (by omega)⟩⟩
  refine (POct.cofferref1_Eight.calls 40 t b8 w2 f2.out).mono ?_
  rintro e3 w3 ⟨v3, rfl, ho3, hb3⟩
  obtain ⟨A3, c3, rfl, hc3, hC3⟩ := Kd.R_reads ho3
  have HC3 := Aside0.mk hC3
  have hB3 := Aside0.mk (below_step hB1.out hb3)
  have hO1 := Aside0.mk (Kd.R_below ho1.out hb3)
  clear hB1 hg2 k32 ho1 hc1 hb3 ho3 hc3 hC3 kc hk hR HB2 hg1 hW1
  have hsm : Aside0 (s.size ≤ 64) := ⟨hs64⟩
  go_wp2_with (first | (at_builtin; refine app_row (w0 := W0) W0.heap.size rfl (.tmp 13) (.tmp 17) 27 rfl Try.underlying27 POct.info5 _ z1 b8 _ _ rfl rfl hO1.out HC3.out hB3.out hB3.out.size (by rw [hz1.out, hb8.out]; simp [hr, be_length]) ?_; intro z2 A2 c2 w4 hz2 hc2 ho2 hB2; have hg3 := Aside0.mk ((hB2.out.block _ hgl.out).trans hg0.out); have k33 : w4.cell? ⟨w.heap.size, 33, none⟩ = some (.string s) := (by rw [blk_cell hg3.out, man_label r t s hr]); have hl5 := Aside0.mk (lit_reads w4 [(s.size : Int)] (by simp)); have hB5 := Aside0.mk (hB2.out.alloc hB2.out.size (.cells (nums .u8 [(s.size : Int)]).toArray 5)); have ho5 := Aside0.mk (Kd.R_alloc ho2.out (.cells (nums .u8 [(s.size : Int)]).toArray 5))) | (at_builtin; refine app_row (w0 := W0) W0.heap.size rfl (.tmp 19) (.tmp 24) 27 rfl Try.underlying27 POct.info5 _ z2 [(s.size : Int)] _ 1 rfl rfl ho5.out hl5.out hB5.out hB5.out.size (by rw [hz2.out, hz1.out, hb8.out]; simp [hr, be_length]) ?_; intro z6 A6 c6 w6 hz6 hc6 ho6 hB6; have hg6 := Aside0.mk ((hB6.out.block _ hgl.out).trans hg0.out); have k36 : w6.cell? ⟨w.heap.size, 33, none⟩ = some (.string s) := (by rw [blk_cell hg6.out, man_label r t s hr])) | (at_builtin; refine app_str (w0 := W0) W0.heap.size rfl (.tmp 26) (.tmp 28) 27 9 rfl Try.underlying27 Try.underlying9 POct.info5 _ z6 s rfl rfl ho6.out hB6.out hB6.out.size (by rw [hz6.out, hz2.out, hz1.out, hb8.out]; have := hsm.out; simp [hr, be_length]; omega) ?_; intro z7 A7 c7 w7 hz7 hc7 ho7 hB7))
  have hz := Aside0.mk (show z7 = manB r t s by rw [hz7.out, hz6.out, hz2.out, hz1.out, hb8.out]; unfold manB; rw [leb_small (by have := hsm.out; omega)])
  go_ret2
  exact ⟨_, rfl, by rw [← hz.out]; exact Kd.R_lower ho7.out hW0.out.1.size, below_step hW0.out.1 hB7.out⟩
end Go.Proofs.Ytdalckmbmcenbaa.Sb
