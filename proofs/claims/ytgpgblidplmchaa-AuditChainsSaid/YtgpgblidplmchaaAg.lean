/- Rows of bytes in a walk: what an append, a literal, a text turned to bytes and a cut leave, said of the list alone. -/
import Derived.Test.YtgpgblidplmchaaTw
import Derived.Laws.Tables
import Derived.Deep.MidRow
import Derived.ArgAppend
import Derived.Laws.ResultCell
import Derived.Lib.SlBytesConst
namespace Go.Proofs.Ytgpgblidplmchaa.Ag
open Go.RowKit Go.Proofs.YtgpgblidplmchaaW.PrintWords Go.Proofs.YtgpgblidplmchaaW.PrintLast Go.Proofs.YtgpgblidplmchaaW.PrintMore
set_option linter.unusedVariables false
set_option linter.unusedSimpArgs false

/-- A row of bytes of the call's own, from block base on. -/
abbrev RB (w : World) (base : Nat) (v : Value) (xs : List Int) : Prop := Kd.R (Kd.int .u8) 5 w base (fun _ => True) v xs
abbrev CB (w : World) (A : Option Addr) (xs : List Int) : Prop := Kd.C (Kd.int .u8) w A xs.length xs

theorem RB.of_own {w : World} {base : Nat} {v : Value} {xs : List Int} (h : w.ownsRow base 5 1 v xs.length (nums .u8 xs)) : RB w base v xs := Kd.R_of_own (enc := Value.int .u8) (h1 := fun _ => rfl) h (fun _ _ => trivial)
theorem RB.own {w : World} {base : Nat} {v : Value} {xs : List Int} (h : RB w base v xs) : w.ownsRow base 5 1 v xs.length (nums .u8 xs) := Kd.own_of_R h
theorem CB.of_cells {w : World} {g o : Nat} {xs : List Int} (hl : xs.length ≤ 9223372036854775807) (h : ∀ j, j < xs.length → w.cell? ⟨g, o + j, none⟩ = some (.int .u8 (xs.getD j 0))) : CB w (some ⟨g, o, none⟩) xs :=
  Kd.C_of_reads (d := (0 : Int)) (h1 := fun _ => rfl) ⟨rfl, hl, fun _ => ⟨_, rfl, fun j hj => by rw [Addr.add_mid]; exact h j hj⟩⟩
theorem CB.of_block {w : World} {g o : Nat} {cs : Array Value} {t : TypeId} {xs : List Int} (h : w.heap[g]? = some (.cells cs t (0, 0))) (hl : xs.length ≤ 9223372036854775807) (hc : ∀ j, j < xs.length → cs[o + j]? = some (.int .u8 (xs.getD j 0))) : CB w (some ⟨g, o, none⟩) xs :=
  CB.of_cells hl fun j hj => by rw [blk_cell h]; exact hc j hj

section
variable {P : Program} {ops : Array Oper} {rest : List Oper} {o : Oper} {a : Act} {Q : Exit → Act → World → Prop}
/-- append(v, ys...) -/
theorem app_row {w0 W : World} (base : Nat) (hgd : o.guard = none) (s x : Operand) (t : TypeId) (ho : o.op = .call { callee := .builtin .append, args := #[s, x], argTypes := #[t, t] })
    (ht : P.underlying t = some (.slice 5)) (hinfo : (P.info? 5).map (fun i => (i.zero, i.size, i.bytes)) = some (some (.int .u8 0), 1, 1))
    (v : Value) (xs ys : List Int) (A : Option Addr) (c : Nat) (hs : a.eval s = v) (hx : a.eval x = .slice A ys.length c)
    (HO : RB W base v xs) (HR : CB W A ys) (HB : Below base w0 W) (hbase : base ≤ W.heap.size) (hl : xs.length + ys.length ≤ 140737488355328)
    (h : ∀ (zs : List Int) (A1 : Option Addr) (c1 : Nat) (w1 : World), Aside0 (zs = xs ++ ys) → Aside0 (zs.length ≤ c1) → Aside0 (RB w1 base (.slice A1 zs.length c1) zs) → Aside0 (Below base w0 w1) → wpList P ops Q rest (a.put o.dst (.slice A1 zs.length c1)) w1) :
    wpList P ops Q (o :: rest) a W := by
  refine print_append_row base hgd s x t 5 .u8 1 ho ht hinfo (by decide) v xs ys A ys.length c hs hx HO.own (Kd.reads_of_C (enc := Value.int .u8) (d := (0 : Int)) (h1 := fun _ => rfl) HR) HB hbase (by omega) fun v1 w1 hown hB _ _ => ?_
  obtain ⟨A1, c1, rfl, hc1, _⟩ := Kd.R_reads (RB.of_own hown)
  exact h _ A1 c1 w1 ⟨rfl⟩ ⟨hc1⟩ ⟨RB.of_own hown⟩ ⟨hB⟩
/-- append(v, ys...), v whatever slice that is full -/
theorem app_grows {w0 W : World} (base : Nat) (hgd : o.guard = none) (s x : Operand) (t : TypeId) (ho : o.op = .call { callee := .builtin .append, args := #[s, x], argTypes := #[t, t] })
    (ht : P.underlying t = some (.slice 5)) (hinfo : (P.info? 5).map (fun i => (i.zero, i.size, i.bytes)) = some (some (.int .u8 0), 1, 1))
    (xs ys : List Int) (X : Option Addr) (cap : Nat) (A : Option Addr) (c : Nat) (hs : a.eval s = .slice X xs.length cap) (hx : a.eval x = .slice A ys.length c)
    (HX : CB W X xs) (hX : X = none → cap = 0) (HR : CB W A ys) (hfull : cap < xs.length + ys.length) (hpos : 0 < ys.length) (HB : Below base w0 W) (hbase : base ≤ W.heap.size) (hl : xs.length + ys.length ≤ 140737488355328)
    (h : ∀ (zs : List Int) (A1 : Option Addr) (c1 : Nat) (w1 : World), Aside0 (zs = xs ++ ys) → Aside0 (zs.length ≤ c1) → Aside0 (RB w1 base (.slice A1 zs.length c1) zs) → Aside0 (Below base w0 w1) → wpList P ops Q rest (a.put o.dst (.slice A1 zs.length c1)) w1) :
    wpList P ops Q (o :: rest) a W := by
  obtain ⟨i0, hi, hzz⟩ := Option.map_eq_some_iff.1 hinfo
  simp only [Prod.mk.injEq] at hzz
  obtain ⟨hz0, hz1, hz2⟩ := hzz
  obtain ⟨_, _, hc⟩ := Kd.reads_of_C (enc := Value.int .u8) (d := (0 : Int)) (h1 := fun _ => rfl) HR
  obtain ⟨ad, rfl, hcc⟩ := hc hpos
  have rd : ∀ (zs : List Int) (B : Addr), (∀ j, j < zs.length → W.cell? (B.add j) = some (.int .u8 (zs.getD j 0))) → ∀ j u, (nums .u8 zs)[j]? = some u → W.cell? (B.add j) = some u := by
    intro zs B hB j u hu
    have hj : j < zs.length := by
      rcases Nat.lt_or_ge j zs.length with h | h
      · exact h
      · rw [List.getElem?_eq_none (by rw [nums_length]; exact h)] at hu; cases hu
    rw [hB j hj]
    simp [nums, List.getElem?_eq_getElem hj] at hu
    simp [List.getD_eq_getElem?_getD, List.getElem?_eq_getElem hj, hu]
  refine wpList_append_grows W hgd s x t ho 5 i0 (.int .u8 0) 1 1 ht hi hz0 hz1 hz2 rfl (by decide) X xs.length cap (nums .u8 xs) hs ?_ (by simp [nums_length]) ?_ ad ys.length c (nums .u8 ys) hx (by simp [nums_length]) (rd ys ad hcc) (Tw.nums_one .u8 ys) hfull (by simp only [maxLen]; omega) (by omega) ?_
  · intro hn
    refine ⟨?_, hX hn⟩
    rcases Nat.eq_zero_or_pos xs.length with h0 | h0
    · exact h0
    · obtain ⟨_, _, hc2⟩ := Kd.reads_of_C (enc := Value.int .u8) (d := (0 : Int)) (h1 := fun _ => rfl) HX
      obtain ⟨b, he, _⟩ := hc2 h0
      rw [hn] at he; cases he
  · intro b hb j u hu
    have h0 : 0 < xs.length := by
      rcases Nat.lt_or_ge j (nums .u8 xs).length with h | h
      · rw [nums_length] at h; omega
      · rw [List.getElem?_eq_none h] at hu; cases hu
    obtain ⟨_, _, hc2⟩ := Kd.reads_of_C (enc := Value.int .u8) (d := (0 : Int)) (h1 := fun _ => rfl) HX
    obtain ⟨b', he, hc3⟩ := hc2 h0
    rw [hb] at he
    injection he with he
    subst he
    exact rd xs b hc3 j u hu
  · intro v1 w1 hown hg
    have hown2 : RB w1 W.heap.size v1 (xs ++ ys) := RB.of_own (by rw [List.length_append, nums_append]; exact hown)
    obtain ⟨A1, c1, rfl, hc1, _⟩ := Kd.R_reads hown2
    exact h _ A1 c1 w1 ⟨rfl⟩ ⟨hc1⟩ ⟨Kd.R_lower hown2 hbase⟩ ⟨HB.grown hg hbase (by simp)⟩
/-- append(v, s...), s a string -/
theorem app_str {w0 W : World} (base : Nat) (hgd : o.guard = none) (s x : Operand) (t u : TypeId) (ho : o.op = .call { callee := .builtin .append, args := #[s, x], argTypes := #[t, u] })
    (ht : P.underlying t = some (.slice 5)) (hu : P.underlying u = some .string) (hinfo : (P.info? 5).map (fun i => (i.zero, i.size, i.bytes)) = some (some (.int .u8 0), 1, 1))
    (v : Value) (xs : List Int) (y : ByteArray) (hs : a.eval s = v) (hx : a.eval x = .string y)
    (HO : RB W base v xs) (HB : Below base w0 W) (hbase : base ≤ W.heap.size) (hl : xs.length + y.size ≤ 140737488355328)
    (h : ∀ (zs : List Int) (A1 : Option Addr) (c1 : Nat) (w1 : World), Aside0 (zs = xs ++ bytesOf y) → Aside0 (zs.length ≤ c1) → Aside0 (RB w1 base (.slice A1 zs.length c1) zs) → Aside0 (Below base w0 w1) → wpList P ops Q rest (a.put o.dst (.slice A1 zs.length c1)) w1) :
    wpList P ops Q (o :: rest) a W := by
  refine print_append_str base hgd s x t u 5 ho ht hu hinfo v xs y hs hx HO.own HB hbase hl fun v1 w1 hown hB _ => ?_
  obtain ⟨A1, c1, rfl, hc1, _⟩ := Kd.R_reads (RB.of_own hown)
  exact h _ A1 c1 w1 ⟨rfl⟩ ⟨hc1⟩ ⟨RB.of_own hown⟩ ⟨hB⟩
end
/-- a literal's row, as the walk leaves it -/
theorem lit_row (W : World) (base : Nat) (xs : List Int) (hb : base ≤ W.heap.size) (hl : xs.length ≤ 9223372036854775807) : RB (W.alloc (.cells (nums .u8 xs).toArray 5)) base (.slice (some ⟨W.heap.size, 0, none⟩) xs.length xs.length) xs :=
  RB.of_own (own_lit W base 5 .u8 xs hb hl)
theorem lit_reads (W : World) (xs : List Int) (hl : xs.length ≤ 9223372036854775807) : CB (W.alloc (.cells (nums .u8 xs).toArray 5)) (some ⟨W.heap.size, 0, none⟩) xs :=
  CB.of_block (heap_alloc_new W _) hl fun j hj => by simp [nums, List.getElem?_eq_getElem hj, List.getD_eq_getElem?_getD]
/-- []byte(s): the fact ahead of a walk, bs for bytesOf s -/
theorem bytes_run {P : Program} (src dst : TypeId) {u : TypeDesc} (hs : P.underlying src = some u) (hd : P.underlying dst = some (.slice 5)) (he : P.underlying 5 = some (.int .u8)) (s : ByteArray) (bs : List Int) (hb : bs = bytesOf s) :
    ∀ W : World, (convert src dst (.string s)).run P W = .ok (.slice (some ⟨W.heap.size, 0, none⟩) bs.length (grownCap W s.size 0 5)) (Lib.bytesWorld W 5 s) := by
  intro W
  rw [hb, bytesOf_length]
  exact print_bytes src dst 5 hs hd he s W
theorem bytes_cap (W : World) (s : ByteArray) (bs : List Int) (hb : bs = bytesOf s) : bs.length ≤ grownCap W s.size 0 5 := by
  rw [hb, bytesOf_length]; exact grownCap_ge W s.size 0 5
theorem bytes_C (W : World) (s : ByteArray) (bs : List Int) (hb : bs = bytesOf s) (hs : s.size ≤ 9223372036854775807) : CB (Lib.bytesWorld W 5 s) (some ⟨W.heap.size, 0, none⟩) bs := by
  subst hb
  have := Kd.C_of_reads (d := (0 : Int)) (h1 := fun _ => rfl) (bytes_reads W 5 s hs)
  rw [← bytesOf_length s] at this
  exact this
theorem bytesOf_byte (s : ByteArray) : ∀ x ∈ bytesOf s, 0 ≤ x ∧ x < 256 := by
  intro x hx
  unfold bytesOf at hx
  obtain ⟨b, _, rfl⟩ := List.mem_map.1 hx
  have := b.toNat_lt
  omega
theorem str_bytesOf (s : ByteArray) : strOfNums (bytesOf s) = s := by
  obtain ⟨⟨l⟩⟩ := s
  simp only [strOfNums, bytesOf, List.map_map]
  congr 2
  conv => rhs; rw [← List.map_id l]
  exact List.map_congr_left fun x _ => by simp
theorem bytesOf_str (xs : List Int) (h : ∀ x ∈ xs, 0 ≤ x ∧ x < 256) : bytesOf (strOfNums xs) = xs := by
  unfold bytesOf strOfNums
  rw [List.map_map]
  conv => rhs; rw [← List.map_id xs]
  apply List.map_congr_left
  intro x hx
  have := h x hx
  simp only [Function.comp, UInt8.toNat_ofNat', id]
  omega
theorem fold_set (off : Nat) : ∀ (vs : List Value) (i : Nat) (acc : Array Value), off + i + vs.length ≤ acc.size →
    ((vs.zipIdx i).foldl (fun cs (x : Value × Nat) => cs.setIfInBounds (off + x.2) x.1) acc).toList = acc.toList.take (off + i) ++ vs ++ acc.toList.drop (off + i + vs.length) := by
  intro vs
  induction vs with
  | nil => intro i acc h; simp
  | cons v vs ih =>
    intro i acc h
    simp only [List.zipIdx_cons, List.foldl_cons]
    rw [ih (i + 1) _ (by simp at h ⊢; omega)]
    simp only [Array.toList_setIfInBounds, List.length_cons]
    have hlt : off + i < acc.toList.length := by simp at h ⊢; omega
    have hl : (acc.toList.take (off + i)).length = off + i := by rw [List.length_take]; omega
    rw [List.set_eq_take_append_cons_drop, if_pos hlt, show off + (i + 1) = (off + i) + 1 by omega]
    have e1 : (acc.toList.take (off + i) ++ v :: acc.toList.drop (off + i + 1)).take (off + i + 1) = acc.toList.take (off + i) ++ [v] := by
      rw [List.take_append, hl, List.take_of_length_le (by omega), show off + i + 1 - (off + i) = 1 by omega]; rfl
    have e2 : (acc.toList.take (off + i) ++ v :: acc.toList.drop (off + i + 1)).drop (off + i + 1 + vs.length) = acc.toList.drop (off + i + (vs.length + 1)) := by
      rw [List.drop_append, hl, List.drop_of_length_le (by omega), show off + i + 1 + vs.length - (off + i) = vs.length + 1 by omega, List.drop_succ_cons, List.drop_drop, List.nil_append]
      congr 1
      omega
    rw [e1, e2]
    simp
theorem fill_one (place : Nat → Option (Nat × Nat)) (cells : Array Value) (i : Nat) (v : Value) (rest : List (Nat × Value)) (off size : Nat) (hp : place i = some (off, size)) (hs : v.cells.size = size) (hf : off + size ≤ cells.size) :
    Instr.fill place cells ((i, v) :: rest) = Instr.fill place (cells.toList.take off ++ v.cells.toList ++ cells.toList.drop (off + size)).toArray rest := by
  subst hs
  simp only [Instr.fill, hp]
  rw [if_neg (by simp; omega)]
  congr 1
  apply Array.ext'
  have := fold_set off v.cells.toList 0 cells (by simpa using hf)
  simp only [Nat.add_zero, Array.length_toList] at this
  rw [← Array.foldl_toList, Array.toList_zipIdx]
  exact this
/-- a struct built out of its parts -/
theorem built_of {P : Program} {ty : TypeId} {zc cs : Array Value} {places : List (Nat × Nat)} {parts : List (Nat × Value)} {fs : Array Field} (hz : (P.info? ty).map (·.zero) = some (some (.agg zc))) (hu : P.underlying ty = some (.struct fs))
    (hp : fs.toList.mapM (fun f => (P.info? f.type).map fun i => (f.offset, i.size)) = some places) (hf : Instr.fill (places.toArray[·]?) zc parts = some cs) : P.built ty parts = some cs := by
  obtain ⟨it, hi, hzz⟩ := Option.map_eq_some_iff.1 hz
  unfold Program.built
  simp only [hi, hu, hzz, hp]
  exact hf
section
variable {P : Program} {ops : Array Oper} {rest : List Oper} {o : Oper} {a : Act} {Q : Exit → Act → World → Prop}
theorem op_alloc {W : World} (hgd : o.guard = none) (ty : TypeId) (ho : o.op = .alloc ty) (zc : Array Value) (hz : (P.info? ty).map (·.zero) = some (some (.agg zc)))
    (h : wpList P ops Q rest (a.put o.dst (.pointer (some ⟨W.heap.size, 0, none⟩))) (W.alloc (.cells zc ty))) : wpList P ops Q (o :: rest) a W := by
  obtain ⟨it, hi, hzz⟩ := Option.map_eq_some_iff.1 hz
  refine Kd.event_run hgd ?_ h
  simp [execOp, ho, Instr.alloc, zeroValue, typeInfo, hi, hzz, newVar, newRow, Value.cells]
theorem op_build {W : World} (hgd : o.guard = none) (ty : TypeId) (parts : Array (Nat × Operand)) (ho : o.op = .build ty parts) (cs : Array Value) (hb : P.built ty (parts.map fun (i, x) => (i, a.eval x)).toList = some cs)
    (h : wpList P ops Q rest (a.put o.dst (.agg cs)) W) : wpList P ops Q (o :: rest) a W := by
  refine Kd.event_run hgd ?_ h
  simp only [execOp, ho]
  simp only [Sem.run_bind, run_build W ty _ cs hb, Result.andThen_ok, Sem.run_pure]
theorem op_load {W : World} (hgd : o.guard = none) (ty : TypeId) (x : Operand) (ho : o.op = .load ty x) (g : Nat) (hx : a.eval x = .pointer (some ⟨g, 0, none⟩)) (t : TypeId) (cs : Array Value) (d : TypeDesc) (hg : W.heap[g]? = some (.cells cs t (0, 0)))
    (hu : P.underlying ty = some d) (hd : (match d with | .struct _ | .array _ _ => true | _ => false) = true) (n : Nat) (hi : (P.info? ty).map (·.size) = some n) (hn : cs.size = n)
    (h : wpList P ops Q rest (a.put o.dst (.agg cs)) W) : wpList P ops Q (o :: rest) a W :=
  wpList_load_row hgd ty x ho g hx t cs (0, 0) d hg hu hd (by rw [hi, hn]) h
/-- a whole variable is written: its block holds the new cells, all other blocks are as they were -/
theorem op_store {w0 W : World} (B : Nat) (hgd : o.guard = none) (ty : TypeId) (x y : Operand) (ho : o.op = .store ty x y) (g : Nat) (cells : Array Value) (hx : a.eval x = .pointer (some ⟨g, 0, none⟩)) (hy : a.eval y = .agg cells)
    (t : TypeId) (old : Array Value) (hg : W.heap[g]? = some (.cells old t (0, 0))) (n : Nat) (hi : (P.info? ty).map (·.size) = some n) (hn : cells.size = n) (hold : old.size = n) (h1 : cells.all (·.oneCell') = true) (HB : Below B w0 W) (hBg : B ≤ g)
    (h : ∀ w1 : World, Aside0 (w1.heap[g]? = some (.cells cells t (0, 0))) → Aside0 (W.grownBy w1 (some g)) → Aside0 (Below B w0 w1) → wpList P ops Q rest (a.put o.dst undef) w1) : wpList P ops Q (o :: rest) a W := by
  refine wpList_store_row hgd ty x y ho g cells hx hy t old hg (by rw [hi, hn]) (by rw [hold, hn]) h1 ?_
  refine h _ ⟨setRow_heap W g old cells t (0, 0) hg⟩ ⟨⟨rfl, rfl, rfl, by simp, fun k hk hne => setRow_other W g k cells (fun e => hne (by rw [e]))⟩⟩ ⟨below_setRow HB hBg cells⟩
end
/-- the function hands back a struct that lies in memory, and a value -/
theorem ret_row {P : Program} {fn : Func} {R : Ending → World → Prop} {a : Act} {w : World} {p u : Tmp} {ty : TypeId} (hres : fn.results = #[.cell p ty, .tmp u]) (g : Nat) (hp : a.tmps.getD p undef = .pointer (some ⟨g, 0, none⟩)) (t : TypeId) (cs : Array Value) (d : TypeDesc) (hg : w.heap[g]? = some (.cells cs t (0, 0)))
    (hu : P.underlying ty = some d) (hd : (match d with | .struct _ | .array _ _ => true | _ => false) = true) (n : Nat) (hi : (P.info? ty).map (·.size) = some n) (hn : cs.size = n) (hdef : a.defers = []) (h : R (.returned (.tuple #[.agg cs, a.tmps.getD u undef])) w) : bodyPost P fn R .ret a w := by
  refine bodyPost_ret ?_ hdef h
  rw [results_cell_tmp hres, hp]
  simp only [asAddr, Sem.run_pure, Result.andThen_ok, run_loadVar_row w g t ty cs (0, 0) d hg hu hd (by rw [hi, hn])]
/-- a row or a struct anywhere, read -/
theorem run_loadVar_at {P : Program} {w : World} (ad : Addr) (ty : TypeId) (cs : List Value) (d : TypeDesc) (hc : ∀ j v, cs[j]? = some v → w.cell? (ad.add j) = some v) (hu : P.underlying ty = some d) (hd : d.isRow = true) (hi : (P.info? ty).map (·.size) = some cs.length) :
    (Instr.loadAt ty (.pointer (some ad))).run P w = .ok (.agg cs.toArray) w := by
  have hl : (loadCells ad cs.length).run P w = .ok cs.toArray w := run_loadCells_list (P := P) w ad cs hc
  cases hq : P.info? ty with
  | none => simp [hq] at hi
  | some i =>
    have hs : i.size = cs.length := by simpa [hq] using hi
    have hagg : (isAgg ty).run P w = .ok true w := by
      unfold isAgg
      rw [Sem.run_bind, run_underlying hu w]
      cases d <;> simp_all
    simp only [Instr.loadAt, Instr.sureAddr, Sem.run_bind, Sem.run_pure, Result.andThen_ok]
    simp [loadVar, Sem.run_bind, hagg, sizeOf, typeInfo, hq, hs, hl]
theorem CB.cells {w : World} {A : Option Addr} {xs : List Int} (h : CB w A xs) (hp : 0 < xs.length) : ∃ ad, A = some ad ∧ ∀ j v, (nums .u8 xs)[j]? = some v → w.cell? (ad.add j) = some v :=
  Tw.copied h (by rw [nums_length]; exact hp)
theorem cut_take {P : Program} (T : TypeId) (ht : P.underlying T = some (.slice 5)) (hinfo : (P.info? 5).map (fun i => (i.zero, i.size, i.bytes)) = some (some (.int .u8 0), 1, 1)) (A : Option Addr) (c : Nat) (xs : List Int) (j : Int) (h0 : 0 ≤ j) (hj : j ≤ xs.length) (hc : xs.length ≤ c) :
    ∃ ys : List Int, ys = xs.take j.toNat ∧ (ys.length : Int) = j ∧ ys.length ≤ c ∧ (∀ W : World, (Instr.slice T (.slice A xs.length c) none (some (.int .i64 j)) none).run P W = .ok (.slice A ys.length c) W) ∧ ∀ W, CB W A xs → CB W A ys := by
  obtain ⟨i0, hi, hzz⟩ := Option.map_eq_some_iff.1 hinfo
  simp only [Prod.mk.injEq] at hzz
  obtain ⟨h1, h2, h3⟩ := print_take_of (P := P) (Value.int .u8) 0 T 5 .i64 ht hi hzz.2.1 A c xs j h0 hj hc
  exact ⟨_, rfl, by rw [List.length_take]; omega, h3, h1, fun W hW => Kd.C_of_reads (d := (0 : Int)) (h1 := fun _ => rfl) (h2 W (Kd.reads_of_C hW))⟩
theorem cut_drop {P : Program} (T : TypeId) (ht : P.underlying T = some (.slice 5)) (hinfo : (P.info? 5).map (fun i => (i.zero, i.size, i.bytes)) = some (some (.int .u8 0), 1, 1)) (A : Option Addr) (c : Nat) (xs : List Int) (j : Int) (h0 : 0 ≤ j) (hj : j ≤ xs.length) (hc : xs.length ≤ c) :
    ∃ (ys : List Int) (A' : Option Addr), ys = xs.drop j.toNat ∧ (ys.length : Int) = xs.length - j ∧ ys.length ≤ c - j.toNat ∧ (∀ W : World, (Instr.slice T (.slice A xs.length c) (some (.int .i64 j)) none none).run P W = .ok (.slice A' ys.length (c - j.toNat)) W) ∧ ∀ W, CB W A xs → CB W A' ys := by
  obtain ⟨i0, hi, hzz⟩ := Option.map_eq_some_iff.1 hinfo
  simp only [Prod.mk.injEq] at hzz
  obtain ⟨A', h1, h2, h3⟩ := print_drop_of (P := P) (Value.int .u8) 0 T 5 .i64 ht hi hzz.2.1 A c xs j h0 hj hc
  exact ⟨_, A', rfl, by rw [List.length_drop]; omega, h3, h1, fun W hW => Kd.C_of_reads (d := (0 : Int)) (h1 := fun _ => rfl) (h2 W (Kd.reads_of_C hW))⟩
theorem cut_mid {P : Program} (T : TypeId) (ht : P.underlying T = some (.slice 5)) (hinfo : (P.info? 5).map (fun i => (i.zero, i.size, i.bytes)) = some (some (.int .u8 0), 1, 1)) (A : Option Addr) (c : Nat) (xs : List Int) (i j : Int) (h0 : 0 ≤ i) (hij : i ≤ j) (hj : j ≤ xs.length) (hc : xs.length ≤ c) :
    ∃ (ys : List Int) (A' : Option Addr), ys = (xs.take j.toNat).drop i.toNat ∧ (ys.length : Int) = j - i ∧ ys.length ≤ c - i.toNat ∧ (∀ W : World, (Instr.slice T (.slice A xs.length c) (some (.int .i64 i)) (some (.int .i64 j)) none).run P W = .ok (.slice A' ys.length (c - i.toNat)) W) ∧ ∀ W, CB W A xs → CB W A' ys := by
  obtain ⟨i0, hi, hzz⟩ := Option.map_eq_some_iff.1 hinfo
  simp only [Prod.mk.injEq] at hzz
  obtain ⟨A', h1, h2, h3⟩ := print_mid_of (P := P) (Value.int .u8) 0 T 5 .i64 .i64 ht hi hzz.2.1 A c xs i j h0 hij hj hc
  exact ⟨_, A', rfl, by rw [List.length_drop, List.length_take]; omega, h3, h1, fun W hW => Kd.C_of_reads (d := (0 : Int)) (h1 := fun _ => rfl) (h2 W (Kd.reads_of_C hW))⟩
/-- [n]byte(ys), where ys is long enough -/
theorem array_at {P : Program} (T n : Nat) (ht : P.underlying T = some (.array n 5)) (A : Option Addr) (m c : Nat) (hm : n ≤ m) : ∀ W : World, (Instr.arrayAt T (.slice A m c)).run P W = .ok (.pointer A) W := by
  intro W
  simp [Instr.arrayAt, run_underlying ht]
  omega
theorem alloc_run {P : Program} {o : Oper} {a : Act} (W : World) (ty : TypeId) (ho : o.op = .alloc ty) (zc : Array Value) (hz : (P.info? ty).map (·.zero) = some (some (.agg zc))) :
    (execOp a.eval o).run P W = .ok (.value (.pointer (some ⟨W.heap.size, 0, none⟩))) (W.alloc (.cells zc ty)) := by
  obtain ⟨it, hi, hzz⟩ := Option.map_eq_some_iff.1 hz
  simp [execOp, ho, Instr.alloc, zeroValue, typeInfo, hi, hzz, newVar, newRow, Value.cells]
theorem store_run {P : Program} {o : Oper} {a : Act} (W : World) (ty : TypeId) (x y : Operand) (ho : o.op = .store ty x y) (g : Nat) (cells : Array Value) (hx : a.eval x = .pointer (some ⟨g, 0, none⟩)) (hy : a.eval y = .agg cells)
    (t : TypeId) (old : Array Value) (hg : W.heap[g]? = some (.cells old t (0, 0))) (n : Nat) (hi : (P.info? ty).map (·.size) = some n) (hn : cells.size = n) (hold : old.size = n) (h1 : cells.all (·.oneCell') = true) :
    (execOp a.eval o).run P W = .ok .skip (W.setRow g cells) := by
  simp only [execOp, ho, hx, hy, Instr.storeAt, Instr.sureAddr, Sem.run_bind, Sem.run_pure, Result.andThen_ok, run_storeVar_row W g t ty old cells hg (by rw [hi, hn]) (by rw [hold, hn]) h1]
theorem load_run {P : Program} {o : Oper} {a : Act} {W : World} {ty : TypeId} {x : Operand} {p v : Value} (ho : o.op = .load ty x) (hx : a.eval x = p) (h : (Instr.loadAt ty p).run P W = .ok v W) : (execOp a.eval o).run P W = .ok (.value v) W := by
  simp only [execOp, ho, hx, Sem.run_bind, h, Result.andThen_ok, Sem.run_pure]
theorem build_run {P : Program} {o : Oper} {a : Act} {W : World} {ty : TypeId} {parts : Array (Nat × Operand)} {ps : Array (Nat × Value)} {cs : Array Value} (ho : o.op = .build ty parts) (hx : (parts.map fun (i, x) => (i, a.eval x)) = ps) (h : P.built ty ps.toList = some cs) : (execOp a.eval o).run P W = .ok (.value (.agg cs)) W := by
  have := run_build W ty ps cs h
  simp only [execOp, ho, hx, Sem.run_bind, this, Result.andThen_ok, Sem.run_pure]
end Go.Proofs.Ytgpgblidplmchaa.Ag
