/- Rows of bytes in a walk: what an append, a literal, a text turned to bytes and a cut leave, said of the list alone. strings.Contains at one byte, strings.HasPrefix: laid off the shelf's templates by its contract.sh. A folder's item in memory: its cells, rows of items. Light: are items not too great? Which names an item may have: the program's and the document's answer. Which lists of items may be a folder: the program's answer. Which lists of items may be a folder: the document's answer. -/
import Derived.Test.YtmcankeggbofhaaTw
import Derived.Laws.Tables
import Derived.Deep.MidRow
import Derived.ArgAppend
import Derived.Laws.ResultCell
import Derived.Lib.SlBytesConst
import Derived.Test.YtmcankeggbofhaaProg
import Derived.Lib.Strings
import Derived.Lib.Slices
import Derived.Lib.Walk
import Derived.Lib.Bytealg
import Derived.Deep.Slices
import Derived.Test.YtmcankeggbofhaaWArr
import Derived.Test.YtmcankeggbofhaaPOctx
import Derived.Test.YtmcankeggbofhaaOc
import Derived.Lib.IndexLaws
import Derived.BigQuiet
import Derived.Laws.Cover1
namespace Go.Proofs.Ytmcankeggbofhaa.Ag
open Go.RowKit Go.Proofs.YtmcankeggbofhaaW.PrintWords Go.Proofs.YtmcankeggbofhaaW.PrintLast Go.Proofs.YtmcankeggbofhaaW.PrintMore
set_option linter.unusedVariables false
set_option linter.unusedSimpArgs false

/-- A row of bytes of the call's own, from block base on. -/
abbrev RB (w : World) (base : Nat) (v : Value) (xs : List Int) : Prop := Kd.R (Kd.int .u8) 5 w base (fun _ => True) v xs
abbrev CB (w : World) (A : Option Addr) (xs : List Int) : Prop := Kd.C (Kd.int .u8) w A xs.length xs

theorem RB.of_own {w : World} {base : Nat} {v : Value} {xs : List Int} (h : w.ownsRow base 5 1 v xs.length (nums .u8 xs)) : RB w base v xs := Kd.R_of_own (enc := Value.int .u8) (h1 := fun _ => rfl) h (fun _ _ => trivial)
theorem RB.own {w : World} {base : Nat} {v : Value} {xs : List Int} (h : RB w base v xs) : w.ownsRow base 5 1 v xs.length (nums .u8 xs) := Kd.own_of_R h
theorem CB.of_cells {w : World} {g o : Nat} {xs : List Int} (hl : xs.length ≤ 9223372036854775807) (h : ∀ j, j < xs.length → w.cell? ⟨g, o + j, none⟩ = some (.int .u8 (xs.getD j 0))) : CB w (some ⟨g, o, none⟩) xs :=
  Kd.C_of_reads (d := (0 : Int)) (h1 := fun _ => rfl) ⟨rfl, hl, fun _ => ⟨_, rfl, fun j hj => by rw [Addr.add_mid]; exact h j hj⟩⟩
theorem CB.of_block {w : World} {g o : Nat} {cs : Array Value} {t : TypeId} {xs : List Int} (h : w.heap[g]? = some (.cells cs t (0, 0))) (hl : xs.length ≤ 9223372036854775807) (hc : ∀ j, j < xs.length → cs[o + j]? = some (.int .u8 (xs.getD j 0))) : CB w (some ⟨g, o, none⟩) xs :=
  CB.of_cells hl fun j hj => by rw [blk_cell h]; exact hc j hj

section
variable {P : Program} {ops : Array Oper} {rest : List Oper} {o : Oper} {a : Act} {Q : Exit → Act → World → Prop}
/-- append(v, ys...) -/
theorem app_row {w0 W : World} (base : Nat) (hgd : o.guard = none) (s x : Operand) (t : TypeId) (ho : o.op = .call { callee := .builtin .append, args := #[s, x], argTypes := #[t, t] })
    (ht : P.underlying t = some (.slice 5)) (hinfo : (P.info? 5).map (fun i => (i.zero, i.size, i.bytes)) = some (some (.int .u8 0), 1, 1))
    (v : Value) (xs ys : List Int) (A : Option Addr) (c : Nat) (hs : a.eval s = v) (hx : a.eval x = .slice A ys.length c)
    (HO : RB W base v xs) (HR : CB W A ys) (HB : Below base w0 W) (hbase : base ≤ W.heap.size) (hl : xs.length + ys.length ≤ 140737488355328)
    (h : ∀ (zs : List Int) (A1 : Option Addr) (c1 : Nat) (w1 : World), Aside0 (zs = xs ++ ys) → Aside0 (zs.length ≤ c1) → Aside0 (RB w1 base (.slice A1 zs.length c1) zs) → Aside0 (Below base w0 w1) → wpList P ops Q rest (a.put o.dst (.slice A1 zs.length c1)) w1) :
    wpList P ops Q (o :: rest) a W := by
  refine print_append_row base hgd s x t 5 .u8 1 ho ht hinfo (by decide) v xs ys A ys.length c hs hx HO.own (Kd.reads_of_C (enc := Value.int .u8) (d := (0 : Int)) (h1 := fun _ => rfl) HR) HB hbase (by omega) fun v1 w1 hown hB _ _ => ?_
  obtain ⟨A1, c1, rfl, hc1, _⟩ := Kd.R_reads (RB.of_own hown)
  exact h _ A1 c1 w1 ⟨rfl⟩ ⟨hc1⟩ ⟨RB.of_own hown⟩ ⟨hB⟩
/-- append(v, ys...), v whatever slice that is full -/
theorem app_grows {w0 W : World} (base : Nat) (hgd : o.guard = none) (s x : Operand) (t : TypeId) (ho : o.op = .call { callee := .builtin .append, args := #[s, x], argTypes := #[t, t] })
    (ht : P.underlying t = some (.slice 5)) (hinfo : (P.info? 5).map (fun i => (i.zero, i.size, i.bytes)) = some (some (.int .u8 0), 1, 1))
    (xs ys : List Int) (X : Option Addr) (cap : Nat) (A : Option Addr) (c : Nat) (hs : a.eval s = .slice X xs.length cap) (hx : a.eval x = .slice A ys.length c)
    (HX : CB W X xs) (hX : X = none → cap = 0) (HR : CB W A ys) (hfull : cap < xs.length + ys.length) (hpos : 0 < ys.length) (HB : Below base w0 W) (hbase : base ≤ W.heap.size) (hl : xs.length + ys.length ≤ 140737488355328)
    (h : ∀ (zs : List Int) (A1 : Option Addr) (c1 : Nat) (w1 : World), Aside0 (zs = xs ++ ys) → Aside0 (zs.length ≤ c1) → Aside0 (RB w1 base (.slice A1 zs.length c1) zs) → Aside0 (Below base w0 w1) → wpList P ops Q rest (a.put o.dst (.slice A1 zs.length c1)) w1) :
    wpList P ops Q (o :: rest) a W := by
  obtain ⟨i0, hi, hzz⟩ := Option.map_eq_some_iff.1 hinfo
  simp only [Prod.mk.injEq] at hzz
  obtain ⟨hz0, hz1, hz2⟩ := hzz
  obtain ⟨_, _, hc⟩ := Kd.reads_of_C (enc := Value.int .u8) (d := (0 : Int)) (h1 := fun _ => rfl) HR
  obtain ⟨ad, rfl, hcc⟩ := hc hpos
  have rd : ∀ (zs : List Int) (B : Addr), (∀ j, j < zs.length → W.cell? (B.add j) = some (.int .u8 (zs.getD j 0))) → ∀ j u, (nums .u8 zs)[j]? = some u → W.cell? (B.add j) = some u := by
    intro zs B hB j u hu
    have hj : j < zs.length := by
      rcases Nat.lt_or_ge j zs.length with h | h
      · exact h
      · rw [List.getElem?_eq_none (by rw [nums_length]; exact h)] at hu; cases hu
    rw [hB j hj]
    simp [nums, List.getElem?_eq_getElem hj] at hu
    simp [List.getD_eq_getElem?_getD, List.getElem?_eq_getElem hj, hu]
  refine wpList_append_grows W hgd s x t ho 5 i0 (.int .u8 0) 1 1 ht hi hz0 hz1 hz2 rfl (by decide) X xs.length cap (nums .u8 xs) hs ?_ (by simp [nums_length]) ?_ ad ys.length c (nums .u8 ys) hx (by simp [nums_length]) (rd ys ad hcc) (Tw.nums_one .u8 ys) hfull (by simp only [maxLen]; omega) (by omega) ?_
  · intro hn
    refine ⟨?_, hX hn⟩
    rcases Nat.eq_zero_or_pos xs.length with h0 | h0
    · exact h0
    · obtain ⟨_, _, hc2⟩ := Kd.reads_of_C (enc := Value.int .u8) (d := (0 : Int)) (h1 := fun _ => rfl) HX
      obtain ⟨b, he, _⟩ := hc2 h0
      rw [hn] at he; cases he
  · intro b hb j u hu
    have h0 : 0 < xs.length := by
      rcases Nat.lt_or_ge j (nums .u8 xs).length with h | h
      · rw [nums_length] at h; omega
      · rw [List.getElem?_eq_none h] at hu; cases hu
    obtain ⟨_, _, hc2⟩ := Kd.reads_of_C (enc := Value.int .u8) (d := (0 : Int)) (h1 := fun _ => rfl) HX
    obtain ⟨b', he, hc3⟩ := hc2 h0
    rw [hb] at he
    injection he with he
    subst he
    exact rd xs b hc3 j u hu
  · intro v1 w1 hown hg
    have hown2 : RB w1 W.heap.size v1 (xs ++ ys) := RB.of_own (by rw [List.length_append, nums_append]; exact hown)
    obtain ⟨A1, c1, rfl, hc1, _⟩ := Kd.R_reads hown2
    exact h _ A1 c1 w1 ⟨rfl⟩ ⟨hc1⟩ ⟨Kd.R_lower hown2 hbase⟩ ⟨HB.grown hg hbase (by simp)⟩
/-- append(v, s...), s a string -/
theorem app_str {w0 W : World} (base : Nat) (hgd : o.guard = none) (s x : Operand) (t u : TypeId) (ho : o.op = .call { callee := .builtin .append, args := #[s, x], argTypes := #[t, u] })
    (ht : P.underlying t = some (.slice 5)) (hu : P.underlying u = some .string) (hinfo : (P.info? 5).map (fun i => (i.zero, i.size, i.bytes)) = some (some (.int .u8 0), 1, 1))
    (v : Value) (xs : List Int) (y : ByteArray) (hs : a.eval s = v) (hx : a.eval x = .string y)
    (HO : RB W base v xs) (HB : Below base w0 W) (hbase : base ≤ W.heap.size) (hl : xs.length + y.size ≤ 140737488355328)
    (h : ∀ (zs : List Int) (A1 : Option Addr) (c1 : Nat) (w1 : World), Aside0 (zs = xs ++ bytesOf y) → Aside0 (zs.length ≤ c1) → Aside0 (RB w1 base (.slice A1 zs.length c1) zs) → Aside0 (Below base w0 w1) → wpList P ops Q rest (a.put o.dst (.slice A1 zs.length c1)) w1) :
    wpList P ops Q (o :: rest) a W := by
  refine print_append_str base hgd s x t u 5 ho ht hu hinfo v xs y hs hx HO.own HB hbase hl fun v1 w1 hown hB _ => ?_
  obtain ⟨A1, c1, rfl, hc1, _⟩ := Kd.R_reads (RB.of_own hown)
  exact h _ A1 c1 w1 ⟨rfl⟩ ⟨hc1⟩ ⟨RB.of_own hown⟩ ⟨hB⟩
end
/-- a literal's row, as the walk leaves it -/
theorem lit_row (W : World) (base : Nat) (xs : List Int) (hb : base ≤ W.heap.size) (hl : xs.length ≤ 9223372036854775807) : RB (W.alloc (.cells (nums .u8 xs).toArray 5)) base (.slice (some ⟨W.heap.size, 0, none⟩) xs.length xs.length) xs :=
  RB.of_own (own_lit W base 5 .u8 xs hb hl)
theorem lit_reads (W : World) (xs : List Int) (hl : xs.length ≤ 9223372036854775807) : CB (W.alloc (.cells (nums .u8 xs).toArray 5)) (some ⟨W.heap.size, 0, none⟩) xs :=
  CB.of_block (heap_alloc_new W _) hl fun j hj => by simp [nums, List.getElem?_eq_getElem hj, List.getD_eq_getElem?_getD]
/-- []byte(s): the fact ahead of a walk, bs for bytesOf s -/
theorem bytes_run {P : Program} (src dst : TypeId) {u : TypeDesc} (hs : P.underlying src = some u) (hd : P.underlying dst = some (.slice 5)) (he : P.underlying 5 = some (.int .u8)) (s : ByteArray) (bs : List Int) (hb : bs = bytesOf s) :
    ∀ W : World, (convert src dst (.string s)).run P W = .ok (.slice (some ⟨W.heap.size, 0, none⟩) bs.length (grownCap W s.size 0 5)) (Lib.bytesWorld W 5 s) := by
  intro W
  rw [hb, bytesOf_length]
  exact print_bytes src dst 5 hs hd he s W
theorem bytes_cap (W : World) (s : ByteArray) (bs : List Int) (hb : bs = bytesOf s) : bs.length ≤ grownCap W s.size 0 5 := by
  rw [hb, bytesOf_length]; exact grownCap_ge W s.size 0 5
theorem bytes_C (W : World) (s : ByteArray) (bs : List Int) (hb : bs = bytesOf s) (hs : s.size ≤ 9223372036854775807) : CB (Lib.bytesWorld W 5 s) (some ⟨W.heap.size, 0, none⟩) bs := by
  subst hb
  have := Kd.C_of_reads (d := (0 : Int)) (h1 := fun _ => rfl) (bytes_reads W 5 s hs)
  rw [← bytesOf_length s] at this
  exact this
theorem bytesOf_byte (s : ByteArray) : ∀ x ∈ bytesOf s, 0 ≤ x ∧ x < 256 := by
  intro x hx
  unfold bytesOf at hx
  obtain ⟨b, _, rfl⟩ := List.mem_map.1 hx
  have := b.toNat_lt
  omega
theorem str_bytesOf (s : ByteArray) : strOfNums (bytesOf s) = s := by
  obtain ⟨⟨l⟩⟩ := s
  simp only [strOfNums, bytesOf, List.map_map]
  congr 2
  conv => rhs; rw [← List.map_id l]
  exact List.map_congr_left fun x _ => by simp
theorem bytesOf_str (xs : List Int) (h : ∀ x ∈ xs, 0 ≤ x ∧ x < 256) : bytesOf (strOfNums xs) = xs := by
  unfold bytesOf strOfNums
  rw [List.map_map]
  conv => rhs; rw [← List.map_id xs]
  apply List.map_congr_left
  intro x hx
  have := h x hx
  simp only [Function.comp, UInt8.toNat_ofNat', id]
  omega
theorem fold_set (off : Nat) : ∀ (vs : List Value) (i : Nat) (acc : Array Value), off + i + vs.length ≤ acc.size →
    ((vs.zipIdx i).foldl (fun cs (x : Value × Nat) => cs.setIfInBounds (off + x.2) x.1) acc).toList = acc.toList.take (off + i) ++ vs ++ acc.toList.drop (off + i + vs.length) := by
  intro vs
  induction vs with
  | nil => intro i acc h; simp
  | cons v vs ih =>
    intro i acc h
    simp only [List.zipIdx_cons, List.foldl_cons]
    rw [ih (i + 1) _ (by simp at h ⊢; omega)]
    simp only [Array.toList_setIfInBounds, List.length_cons]
    have hlt : off + i < acc.toList.length := by simp at h ⊢; omega
    have hl : (acc.toList.take (off + i)).length = off + i := by rw [List.length_take]; omega
    rw [List.set_eq_take_append_cons_drop, if_pos hlt, show off + (i + 1) = (off + i) + 1 by omega]
    have e1 : (acc.toList.take (off + i) ++ v :: acc.toList.drop (off + i + 1)).take (off + i + 1) = acc.toList.take (off + i) ++ [v] := by
      rw [List.take_append, hl, List.take_of_length_le (by omega), show off + i + 1 - (off + i) = 1 by omega]; rfl
    have e2 : (acc.toList.take (off + i) ++ v :: acc.toList.drop (off + i + 1)).drop (off + i + 1 + vs.length) = acc.toList.drop (off + i + (vs.length + 1)) := by
      rw [List.drop_append, hl, List.drop_of_length_le (by omega), show off + i + 1 + vs.length - (off + i) = vs.length + 1 by omega, List.drop_succ_cons, List.drop_drop, List.nil_append]
      congr 1
      omega
    rw [e1, e2]
    simp
theorem fill_one (place : Nat → Option (Nat × Nat)) (cells : Array Value) (i : Nat) (v : Value) (rest : List (Nat × Value)) (off size : Nat) (hp : place i = some (off, size)) (hs : v.cells.size = size) (hf : off + size ≤ cells.size) :
    Instr.fill place cells ((i, v) :: rest) = Instr.fill place (cells.toList.take off ++ v.cells.toList ++ cells.toList.drop (off + size)).toArray rest := by
  subst hs
  simp only [Instr.fill, hp]
  rw [if_neg (by simp; omega)]
  congr 1
  apply Array.ext'
  have := fold_set off v.cells.toList 0 cells (by simpa using hf)
  simp only [Nat.add_zero, Array.length_toList] at this
  rw [← Array.foldl_toList, Array.toList_zipIdx]
  exact this
/-- a struct built out of its parts -/
theorem built_of {P : Program} {ty : TypeId} {zc cs : Array Value} {places : List (Nat × Nat)} {parts : List (Nat × Value)} {fs : Array Field} (hz : (P.info? ty).map (·.zero) = some (some (.agg zc))) (hu : P.underlying ty = some (.struct fs))
    (hp : fs.toList.mapM (fun f => (P.info? f.type).map fun i => (f.offset, i.size)) = some places) (hf : Instr.fill (places.toArray[·]?) zc parts = some cs) : P.built ty parts = some cs := by
  obtain ⟨it, hi, hzz⟩ := Option.map_eq_some_iff.1 hz
  unfold Program.built
  simp only [hi, hu, hzz, hp]
  exact hf
section
variable {P : Program} {ops : Array Oper} {rest : List Oper} {o : Oper} {a : Act} {Q : Exit → Act → World → Prop}
theorem op_alloc {W : World} (hgd : o.guard = none) (ty : TypeId) (ho : o.op = .alloc ty) (zc : Array Value) (hz : (P.info? ty).map (·.zero) = some (some (.agg zc)))
    (h : wpList P ops Q rest (a.put o.dst (.pointer (some ⟨W.heap.size, 0, none⟩))) (W.alloc (.cells zc ty))) : wpList P ops Q (o :: rest) a W := by
  obtain ⟨it, hi, hzz⟩ := Option.map_eq_some_iff.1 hz
  refine Kd.event_run hgd ?_ h
  simp [execOp, ho, Instr.alloc, zeroValue, typeInfo, hi, hzz, newVar, newRow, Value.cells]
theorem op_build {W : World} (hgd : o.guard = none) (ty : TypeId) (parts : Array (Nat × Operand)) (ho : o.op = .build ty parts) (cs : Array Value) (hb : P.built ty (parts.map fun (i, x) => (i, a.eval x)).toList = some cs)
    (h : wpList P ops Q rest (a.put o.dst (.agg cs)) W) : wpList P ops Q (o :: rest) a W := by
  refine Kd.event_run hgd ?_ h
  simp only [execOp, ho]
  simp only [Sem.run_bind, run_build W ty _ cs hb, Result.andThen_ok, Sem.run_pure]
theorem op_load {W : World} (hgd : o.guard = none) (ty : TypeId) (x : Operand) (ho : o.op = .load ty x) (g : Nat) (hx : a.eval x = .pointer (some ⟨g, 0, none⟩)) (t : TypeId) (cs : Array Value) (d : TypeDesc) (hg : W.heap[g]? = some (.cells cs t (0, 0)))
    (hu : P.underlying ty = some d) (hd : (match d with | .struct _ | .array _ _ => true | _ => false) = true) (n : Nat) (hi : (P.info? ty).map (·.size) = some n) (hn : cs.size = n)
    (h : wpList P ops Q rest (a.put o.dst (.agg cs)) W) : wpList P ops Q (o :: rest) a W :=
  wpList_load_row hgd ty x ho g hx t cs (0, 0) d hg hu hd (by rw [hi, hn]) h
/-- a whole variable is written: its block holds the new cells, all other blocks are as they were -/
theorem op_store {w0 W : World} (B : Nat) (hgd : o.guard = none) (ty : TypeId) (x y : Operand) (ho : o.op = .store ty x y) (g : Nat) (cells : Array Value) (hx : a.eval x = .pointer (some ⟨g, 0, none⟩)) (hy : a.eval y = .agg cells)
    (t : TypeId) (old : Array Value) (hg : W.heap[g]? = some (.cells old t (0, 0))) (n : Nat) (hi : (P.info? ty).map (·.size) = some n) (hn : cells.size = n) (hold : old.size = n) (h1 : cells.all (·.oneCell') = true) (HB : Below B w0 W) (hBg : B ≤ g)
    (h : ∀ w1 : World, Aside0 (w1.heap[g]? = some (.cells cells t (0, 0))) → Aside0 (W.grownBy w1 (some g)) → Aside0 (Below B w0 w1) → wpList P ops Q rest (a.put o.dst undef) w1) : wpList P ops Q (o :: rest) a W := by
  refine wpList_store_row hgd ty x y ho g cells hx hy t old hg (by rw [hi, hn]) (by rw [hold, hn]) h1 ?_
  refine h _ ⟨setRow_heap W g old cells t (0, 0) hg⟩ ⟨⟨rfl, rfl, rfl, by simp, fun k hk hne => setRow_other W g k cells (fun e => hne (by rw [e]))⟩⟩ ⟨below_setRow HB hBg cells⟩
end
/-- the function hands back a struct that lies in memory, and a value -/
theorem ret_row {P : Program} {fn : Func} {R : Ending → World → Prop} {a : Act} {w : World} {p u : Tmp} {ty : TypeId} (hres : fn.results = #[.cell p ty, .tmp u]) (g : Nat) (hp : a.tmps.getD p undef = .pointer (some ⟨g, 0, none⟩)) (t : TypeId) (cs : Array Value) (d : TypeDesc) (hg : w.heap[g]? = some (.cells cs t (0, 0)))
    (hu : P.underlying ty = some d) (hd : (match d with | .struct _ | .array _ _ => true | _ => false) = true) (n : Nat) (hi : (P.info? ty).map (·.size) = some n) (hn : cs.size = n) (hdef : a.defers = []) (h : R (.returned (.tuple #[.agg cs, a.tmps.getD u undef])) w) : bodyPost P fn R .ret a w := by
  refine bodyPost_ret ?_ hdef h
  rw [results_cell_tmp hres, hp]
  simp only [asAddr, Sem.run_pure, Result.andThen_ok, run_loadVar_row w g t ty cs (0, 0) d hg hu hd (by rw [hi, hn])]
/-- a row or a struct anywhere, read -/
theorem run_loadVar_at {P : Program} {w : World} (ad : Addr) (ty : TypeId) (cs : List Value) (d : TypeDesc) (hc : ∀ j v, cs[j]? = some v → w.cell? (ad.add j) = some v) (hu : P.underlying ty = some d) (hd : d.isRow = true) (hi : (P.info? ty).map (·.size) = some cs.length) :
    (Instr.loadAt ty (.pointer (some ad))).run P w = .ok (.agg cs.toArray) w := by
  have hl : (loadCells ad cs.length).run P w = .ok cs.toArray w := run_loadCells_list (P := P) w ad cs hc
  cases hq : P.info? ty with
  | none => simp [hq] at hi
  | some i =>
    have hs : i.size = cs.length := by simpa [hq] using hi
    have hagg : (isAgg ty).run P w = .ok true w := by
      unfold isAgg
      rw [Sem.run_bind, run_underlying hu w]
      cases d <;> simp_all
    simp only [Instr.loadAt, Instr.sureAddr, Sem.run_bind, Sem.run_pure, Result.andThen_ok]
    simp [loadVar, Sem.run_bind, hagg, sizeOf, typeInfo, hq, hs, hl]
theorem CB.cells {w : World} {A : Option Addr} {xs : List Int} (h : CB w A xs) (hp : 0 < xs.length) : ∃ ad, A = some ad ∧ ∀ j v, (nums .u8 xs)[j]? = some v → w.cell? (ad.add j) = some v :=
  Tw.copied h (by rw [nums_length]; exact hp)
theorem cut_take {P : Program} (T : TypeId) (ht : P.underlying T = some (.slice 5)) (hinfo : (P.info? 5).map (fun i => (i.zero, i.size, i.bytes)) = some (some (.int .u8 0), 1, 1)) (A : Option Addr) (c : Nat) (xs : List Int) (j : Int) (h0 : 0 ≤ j) (hj : j ≤ xs.length) (hc : xs.length ≤ c) :
    ∃ ys : List Int, ys = xs.take j.toNat ∧ (ys.length : Int) = j ∧ ys.length ≤ c ∧ (∀ W : World, (Instr.slice T (.slice A xs.length c) none (some (.int .i64 j)) none).run P W = .ok (.slice A ys.length c) W) ∧ ∀ W, CB W A xs → CB W A ys := by
  obtain ⟨i0, hi, hzz⟩ := Option.map_eq_some_iff.1 hinfo
  simp only [Prod.mk.injEq] at hzz
  obtain ⟨h1, h2, h3⟩ := print_take_of (P := P) (Value.int .u8) 0 T 5 .i64 ht hi hzz.2.1 A c xs j h0 hj hc
  exact ⟨_, rfl, by rw [List.length_take]; omega, h3, h1, fun W hW => Kd.C_of_reads (d := (0 : Int)) (h1 := fun _ => rfl) (h2 W (Kd.reads_of_C hW))⟩
theorem cut_drop {P : Program} (T : TypeId) (ht : P.underlying T = some (.slice 5)) (hinfo : (P.info? 5).map (fun i => (i.zero, i.size, i.bytes)) = some (some (.int .u8 0), 1, 1)) (A : Option Addr) (c : Nat) (xs : List Int) (j : Int) (h0 : 0 ≤ j) (hj : j ≤ xs.length) (hc : xs.length ≤ c) :
    ∃ (ys : List Int) (A' : Option Addr), ys = xs.drop j.toNat ∧ (ys.length : Int) = xs.length - j ∧ ys.length ≤ c - j.toNat ∧ (∀ W : World, (Instr.slice T (.slice A xs.length c) (some (.int .i64 j)) none none).run P W = .ok (.slice A' ys.length (c - j.toNat)) W) ∧ ∀ W, CB W A xs → CB W A' ys := by
  obtain ⟨i0, hi, hzz⟩ := Option.map_eq_some_iff.1 hinfo
  simp only [Prod.mk.injEq] at hzz
  obtain ⟨A', h1, h2, h3⟩ := print_drop_of (P := P) (Value.int .u8) 0 T 5 .i64 ht hi hzz.2.1 A c xs j h0 hj hc
  exact ⟨_, A', rfl, by rw [List.length_drop]; omega, h3, h1, fun W hW => Kd.C_of_reads (d := (0 : Int)) (h1 := fun _ => rfl) (h2 W (Kd.reads_of_C hW))⟩
theorem cut_mid {P : Program} (T : TypeId) (ht : P.underlying T = some (.slice 5)) (hinfo : (P.info? 5).map (fun i => (i.zero, i.size, i.bytes)) = some (some (.int .u8 0), 1, 1)) (A : Option Addr) (c : Nat) (xs : List Int) (i j : Int) (h0 : 0 ≤ i) (hij : i ≤ j) (hj : j ≤ xs.length) (hc : xs.length ≤ c) :
    ∃ (ys : List Int) (A' : Option Addr), ys = (xs.take j.toNat).drop i.toNat ∧ (ys.length : Int) = j - i ∧ ys.length ≤ c - i.toNat ∧ (∀ W : World, (Instr.slice T (.slice A xs.length c) (some (.int .i64 i)) (some (.int .i64 j)) none).run P W = .ok (.slice A' ys.length (c - i.toNat)) W) ∧ ∀ W, CB W A xs → CB W A' ys := by
  obtain ⟨i0, hi, hzz⟩ := Option.map_eq_some_iff.1 hinfo
  simp only [Prod.mk.injEq] at hzz
  obtain ⟨A', h1, h2, h3⟩ := print_mid_of (P := P) (Value.int .u8) 0 T 5 .i64 .i64 ht hi hzz.2.1 A c xs i j h0 hij hj hc
  exact ⟨_, A', rfl, by rw [List.length_drop, List.length_take]; omega, h3, h1, fun W hW => Kd.C_of_reads (d := (0 : Int)) (h1 := fun _ => rfl) (h2 W (Kd.reads_of_C hW))⟩
/-- [n]byte(ys), where ys is long enough -/
theorem array_at {P : Program} (T n : Nat) (ht : P.underlying T = some (.array n 5)) (A : Option Addr) (m c : Nat) (hm : n ≤ m) : ∀ W : World, (Instr.arrayAt T (.slice A m c)).run P W = .ok (.pointer A) W := by
  intro W
  simp [Instr.arrayAt, run_underlying ht]
  omega
theorem alloc_run {P : Program} {o : Oper} {a : Act} (W : World) (ty : TypeId) (ho : o.op = .alloc ty) (zc : Array Value) (hz : (P.info? ty).map (·.zero) = some (some (.agg zc))) :
    (execOp a.eval o).run P W = .ok (.value (.pointer (some ⟨W.heap.size, 0, none⟩))) (W.alloc (.cells zc ty)) := by
  obtain ⟨it, hi, hzz⟩ := Option.map_eq_some_iff.1 hz
  simp [execOp, ho, Instr.alloc, zeroValue, typeInfo, hi, hzz, newVar, newRow, Value.cells]
theorem store_run {P : Program} {o : Oper} {a : Act} (W : World) (ty : TypeId) (x y : Operand) (ho : o.op = .store ty x y) (g : Nat) (cells : Array Value) (hx : a.eval x = .pointer (some ⟨g, 0, none⟩)) (hy : a.eval y = .agg cells)
    (t : TypeId) (old : Array Value) (hg : W.heap[g]? = some (.cells old t (0, 0))) (n : Nat) (hi : (P.info? ty).map (·.size) = some n) (hn : cells.size = n) (hold : old.size = n) (h1 : cells.all (·.oneCell') = true) :
    (execOp a.eval o).run P W = .ok .skip (W.setRow g cells) := by
  simp only [execOp, ho, hx, hy, Instr.storeAt, Instr.sureAddr, Sem.run_bind, Sem.run_pure, Result.andThen_ok, run_storeVar_row W g t ty old cells hg (by rw [hi, hn]) (by rw [hold, hn]) h1]
theorem load_run {P : Program} {o : Oper} {a : Act} {W : World} {ty : TypeId} {x : Operand} {p v : Value} (ho : o.op = .load ty x) (hx : a.eval x = p) (h : (Instr.loadAt ty p).run P W = .ok v W) : (execOp a.eval o).run P W = .ok (.value v) W := by
  simp only [execOp, ho, hx, Sem.run_bind, h, Result.andThen_ok, Sem.run_pure]
theorem build_run {P : Program} {o : Oper} {a : Act} {W : World} {ty : TypeId} {parts : Array (Nat × Operand)} {ps : Array (Nat × Value)} {cs : Array Value} (ho : o.op = .build ty parts) (hx : (parts.map fun (i, x) => (i, a.eval x)) = ps) (h : P.built ty ps.toList = some cs) : (execOp a.eval o).run P W = .ok (.value (.agg cs)) W := by
  have := run_build W ty ps cs h
  simp only [execOp, ho, hx, Sem.run_bind, this, Result.andThen_ok, Sem.run_pure]
end Go.Proofs.Ytmcankeggbofhaa.Ag
namespace Go.Proofs.Ytmcankeggbofhaa
open Go.Proofs

set_option maxHeartbeats 1000000 in
set_option maxRecDepth 100000 in
/-- internal/stringslite.IndexByte (what strings.IndexByte calls): IT RETURNS 'Lib.indexByte s c'; the world is as it was. -/
theorem Try.stringslite_IndexByte (s : ByteArray) (c : Int) (w : World) :
    Calls Try.prog 43 #[.string s, .int .u8 c] w fun e w' => e = .returned (.int .i64 (Lib.indexByte s.data.toList c.toNat.toUInt8)) ∧ w' = w := by
  go_enter Try.func43, Try.ntmps43
  go_wp2
  rw [run_callFunc_extern Try.func47 (by kernel_rfl) (by kernel_rfl) (by kernel_rfl) (e := Extern.BytealgIndexByte.indexByte) (by kernel_rfl), Lib.run_indexByteString]
  simp only [Result.andThen]
  rw [Oper.upon_value]
  go_wp2
  go_ret
  exact ⟨rfl, rfl⟩

set_option maxHeartbeats 2000000 in
set_option maxRecDepth 100000 in
/-- internal/stringslite.Index (what strings.Index calls) AT A substr OF ONE BYTE c: IT RETURNS 'Lib.indexByte s c'; the world is as it was. -/
theorem Try.stringslite_Index_one (s : ByteArray) (c : UInt8) (w : World) :
    Calls Try.prog 42 #[.string s, .string ⟨#[c]⟩] w fun e w' => e = .returned (.int .i64 (Lib.indexByte s.data.toList c)) ∧ w' = w := by
  go_enter Try.func42, Try.ntmps42
  go_wp2_with (go_at_call 43; refine (Try.stringslite_IndexByte _ _ _).mono ?_; rintro e w' ⟨rfl, rfl⟩)
  · have h : ([c] == s.toList) = true := by assumption
    go_ret
    refine ⟨?_, rfl⟩
    have e : s.data.toList = [c] := by rw [← Lib.toList_data]; exact (beq_iff_eq.1 h).symm
    rw [e]
    simp [Lib.indexByte]
  · go_ret
    exact ⟨rfl, rfl⟩

set_option maxHeartbeats 1000000 in
/-- strings.Index: "Index returns the index of the first instance of substr in s, or -1 if substr is not present in s.": AT A substr OF ONE BYTE c: IT RETURNS 'Lib.indexByte s c'; the world is as it was. -/
theorem Try.strings_Index_one (s : ByteArray) (c : UInt8) (w : World) :
    Calls Try.prog 41 #[.string s, .string ⟨#[c]⟩] w fun e w' => e = .returned (.int .i64 (Lib.indexByte s.data.toList c)) ∧ w' = w := by
  go_enter Try.func41, Try.ntmps41
  go_wp2_with (go_at_call 42; refine (Try.stringslite_Index_one _ _ _).mono ?_; rintro e w' ⟨rfl, rfl⟩)
  go_ret
  exact ⟨rfl, rfl⟩

set_option maxHeartbeats 1000000 in
/-- strings.Contains: "Contains reports whether substr is within s.": AT A substr OF ONE BYTE c: IT RETURNS 'decide (0 ≤ Lib.indexByte s c)'; the world is as it was. -/
theorem Try.strings_Contains_one (s : ByteArray) (c : UInt8) (w : World) :
    Calls Try.prog 37 #[.string s, .string ⟨#[c]⟩] w fun e w' => e = .returned (.bool (decide (0 ≤ Lib.indexByte s.data.toList c))) ∧ w' = w := by
  go_enter Try.func37, Try.ntmps37
  go_wp2_with (go_at_call 41; refine (Try.strings_Index_one _ _ _).mono ?_; rintro e w' ⟨rfl, rfl⟩)
  go_ret
  exact ⟨rfl, rfl⟩

set_option maxHeartbeats 1000000 in
/-- strings.HasPrefix: "HasPrefix reports whether the string s begins with prefix.": IT RETURNS 'Lib.hasPrefix s prefix'; the world is as it was. -/
theorem Try.strings_HasPrefix (s p : ByteArray) (w : World) :
    Calls Try.prog 32 #[.string s, .string p] w fun e w' => e = .returned (.bool (Lib.hasPrefix s.data.toList p.data.toList)) ∧ w' = w := by
  rw [← Lib.hasPrefix_of_take, ← Lib.size_eq, ← Lib.size_eq]
  go_enter Try.func32, Try.ntmps32
  go_wp2
  · rename_i h
    go_ret
    refine ⟨?_, rfl⟩
    show Ending.returned (Value.bool ((s.extract 0 p.size).toList == p.toList)) = _
    rw [Lib.extract_toList, Lib.toList_data]
    simp [h]
  · rename_i h
    go_ret
    refine ⟨?_, rfl⟩
    show Ending.returned (Value.bool false) = _
    simp [h]
end Go.Proofs.Ytmcankeggbofhaa
namespace Go.Proofs.Ytmcankeggbofhaa.It
open Go.RowKit Go.Proofs.YtmcankeggbofhaaW.PrintWords Go.Proofs.YtmcankeggbofhaaW.PrintLast Go.Proofs.YtmcankeggbofhaaW.PrintMore
set_option linter.unusedVariables false
set_option linter.unusedSimpArgs false

structure Itm where
  name : ByteArray
  kind : Int
  of : List Int
  size : Int
instance : Inhabited Itm := ⟨⟨ByteArray.empty, 0, [], 0⟩⟩
def cellsOf (x : Itm) : List Value := Value.string x.name :: Value.int .i64 x.kind :: (nums .u8 x.of ++ [Value.int .i64 x.size])
def Ok (x : Itm) : Prop := x.of.length = 32
theorem cells_len {x : Itm} (h : Ok x) : (cellsOf x).length = 35 := by unfold Ok at h; simp [cellsOf, nums, h]
theorem cells_name (x : Itm) : (cellsOf x)[0]? = some (.string x.name) := rfl
theorem cells_kind (x : Itm) : (cellsOf x)[1]? = some (.int .i64 x.kind) := rfl
theorem cells_size {x : Itm} (h : Ok x) : (cellsOf x)[34]? = some (.int .i64 x.size) := by unfold Ok at h; simp [cellsOf, nums, h]
theorem cells_one (x : Itm) : ∀ u ∈ cellsOf x, u.oneCell' = true := by
  intro u hu
  simp only [cellsOf, nums, List.mem_cons, List.mem_append, List.mem_map, List.not_mem_nil, or_false] at hu
  rcases hu with rfl | rfl | ⟨y, _, rfl⟩ | rfl <;> rfl
def kd : Kd Itm where
  sz := 35
  E := []
  K := fun _ x cs => cs = cellsOf x ∧ Ok x
  M := fun _ _ _ x cs => cs = cellsOf x ∧ Ok x
  K_len := fun h => by rw [h.1]; exact cells_len h.2
  K_one := fun h => by rw [h.1]; exact cells_one _
  K_below := fun _ h => h
  K_of_M := fun h => h
  M_mono := fun _ h => h
  M_bound := fun h => h
  M_move := fun _ h => h
  M_lower := fun _ h => h
/-- items that are read; items of the call's own -/
abbrev CI (w : World) (A : Option Addr) (xs : List Itm) : Prop := Kd.C kd w A xs.length xs
abbrev RI (w : World) (base : Nat) (v : Value) (xs : List Itm) : Prop := Kd.R kd 28 w base (fun _ => True) v xs
theorem info28 : (Try.prog.info? 28).map (·.size) = some 35 := by kernel_rfl
theorem CI.cells {w : World} {A : Option Addr} {xs : List Itm} (h : CI w A xs) (hp : 0 < xs.length) : ∃ ad, A = some ad ∧ ∀ i (hi : i < xs.length), Ok xs[i] ∧ ∀ j u, (cellsOf xs[i])[j]? = some u → w.cell? (ad.add (i * 35 + j)) = some u := by
  obtain ⟨ad, e, hc⟩ := h.2.2 hp
  refine ⟨ad, e, fun i hi => ?_⟩
  obtain ⟨c, hl, hk, hcell⟩ := hc i xs[i] (List.getElem?_eq_getElem hi)
  obtain ⟨rfl, hok⟩ := hk
  exact ⟨hok, hcell⟩
theorem item_at {w : World} {A : Option Addr} {xs : List Itm} (h : CI w A xs) (i : Nat) (hi : i < xs.length) :
    ∃ ad, A = some ad ∧ Ok xs[i] ∧ w.cell? (ad.add (i * 35)) = some (.string xs[i].name) ∧ (Instr.loadAt 28 (.pointer (some (ad.add (i * 35))))).run Try.prog w = .ok (.agg (cellsOf xs[i]).toArray) w := by
  obtain ⟨ad, rfl, hc⟩ := CI.cells h (by omega)
  obtain ⟨hok, hcell⟩ := hc i hi
  refine ⟨ad, rfl, hok, hcell 0 _ (cells_name _), ?_⟩
  exact Ag.run_loadVar_at _ 28 _ _ (fun j v hv => by rw [Go.Deep.add_add]; exact hcell j v hv) Try.underlying28 rfl (by rw [info28, cells_len hok])
theorem upto_next {α : Type} {l : List α} {p : α → Prop} {j : Nat} (h : ∀ i (hi : i < l.length), i < j → p l[i]) (hlt : j < l.length) (hj : p l[j]) : ∀ i (hi : i < l.length), i < j + 1 → p l[i] := by
  intro i hi hij
  rcases Nat.lt_or_ge i j with h1 | h1
  · exact h i hi h1
  · obtain rfl : i = j := by omega
    exact hj
/-- a whole item lies in a block of its own -/
def It (w : World) (g : Nat) (x : Itm) : Prop := w.heap[g]? = some (.cells (cellsOf x).toArray 28 (0, 0))
theorem it_name {w : World} {g : Nat} {x : Itm} (h : It w g x) : w.cell? ⟨g, 0, none⟩ = some (.string x.name) := by rw [blk_cell h]; simp [cells_name]
theorem it_kind {w : World} {g : Nat} {x : Itm} (h : It w g x) : w.cell? ⟨g, 1, none⟩ = some (.int .i64 x.kind) := by rw [blk_cell h]; simp [cells_kind]
theorem it_size {w : World} {g : Nat} {x : Itm} (h : It w g x) (hok : Ok x) : w.cell? ⟨g, 34, none⟩ = some (.int .i64 x.size) := by rw [blk_cell h]; simp [cells_size hok]
theorem cells_all (x : Itm) : (cellsOf x).toArray.all (·.oneCell') = true := by
  rw [Array.all_eq_true]
  intro i hi
  exact cells_one x _ (by simp)
theorem cells_sz {x : Itm} (h : Ok x) : (cellsOf x).toArray.size = 35 := by simp [cells_len h]
def item0 : Itm := ⟨ByteArray.empty, 0, List.replicate 32 0, 0⟩
theorem ok0 : Ok item0 := by simp [Ok, item0]
theorem zero28 : (Try.prog.info? 28).map (·.zero) = some (some (.agg (cellsOf item0).toArray)) := by kernel_rfl
theorem built0 : Try.prog.built 28 [] = some (cellsOf item0).toArray := by kernel_rfl
end Go.Proofs.Ytmcankeggbofhaa.It
namespace Go.Proofs.Ytmcankeggbofhaa.Li
open Go.RowKit Go.Proofs.YtmcankeggbofhaaW.PrintWords Go.Proofs.YtmcankeggbofhaaW.PrintLast Go.Proofs.YtmcankeggbofhaaW.PrintMore
open It
set_option linter.unusedVariables false
set_option linter.unusedSimpArgs false
def lightB (l : List Itm) : Bool := decide (l.length ≤ 100) && l.all fun x => decide (x.name.size ≤ 200)
set_option maxHeartbeats 800000 in
theorem light_calls (A : Option Addr) (c : Nat) (l : List Itm) (w : World) (hr : CI w A l) (hc : l.length ≤ c) (hmx : l.length ≤ 9223372036854775807) :
    Calls Try.prog 10 #[.slice A l.length c] w fun e w' => e = .returned (.bool (lightB l)) ∧ Drawn0 w w' := by
  have HR := Aside0.mk hr
  by_cases hl : l.length ≤ 100
  · have d1 : decide (100 < (l.length : Int)) = false := by simp; omega
    clear hr
    go_enter Try.func10, Try.ntmps10
    go_wp2
    go_loop [3] (fun u => ∃ j : Nat, j ≤ l.length ∧ u = .int .i64 j ∧ Aside0 (∀ i (hi : i < l.length), i < j → l[i].name.size ≤ 200)) (fun u => l.length - (intOf u).toNat)
    case atStart => exact ⟨0, by omega, rfl, ⟨fun i _ hi => absurd hi (by omega)⟩⟩
    case round =>
      obtain ⟨j, hj, rfl, HJ⟩ := hrel
      by_cases hlt : j < l.length
      · obtain ⟨ad, rfl, _, hn, _⟩ := item_at HR.out j hlt
        by_cases hs : l[j].name.size ≤ 200
        · have d2 : decide (200 < (l[j].name.size : Int)) = false := by simp; omega
          go_wp2
          go_round
          case rel => exact ⟨j + 1, by omega, by go_num, ⟨upto_next (p := fun x => x.name.size ≤ 200) HJ.out hlt hs⟩⟩
          case measure => simp [intOf]; omega
        · have d2 : decide (200 < (l[j].name.size : Int)) = true := by simp; omega
          have hno : lightB l = false := by
            unfold lightB
            rw [Bool.and_eq_false_iff, List.all_eq_false]
            exact .inr ⟨l[j], List.getElem_mem hlt, by simpa using hs⟩
          have HN := Aside0.mk hno
          clear hno
          go_wp2
          go_ret
          exact ⟨by rw [HN.out]; rfl, Drawn0.refl _⟩
      · obtain rfl : j = l.length := by omega
        go_wp2
        go_ret
        refine ⟨?_, Drawn0.refl _⟩
        have : lightB l = true := by
          unfold lightB
          rw [Bool.and_eq_true, List.all_eq_true]
          refine ⟨by simpa using hl, fun x hx => ?_⟩
          obtain ⟨i, hi, rfl⟩ := List.mem_iff_getElem.1 hx
          simpa using HJ.out i hi hi
        rw [this]; rfl
  · have d1 : decide (100 < (l.length : Int)) = true := by simp; omega
    clear hr
    go_enter Try.func10, Try.ntmps10
    go_wp2
    go_ret
    exact ⟨by rw [lightB, decide_eq_false hl]; rfl, Drawn0.refl _⟩
end Go.Proofs.Ytmcankeggbofhaa.Li
namespace Go.Proofs.Ytmcankeggbofhaa.Nm
open Go.RowKit Go.Proofs.YtmcankeggbofhaaW.PrintWords Go.Proofs.YtmcankeggbofhaaW.PrintLast Go.Proofs.YtmcankeggbofhaaW.PrintMore
open It
set_option linter.unusedVariables false
set_option linter.unusedSimpArgs false
def hasB (s : ByteArray) (c : UInt8) : Bool := decide (0 ≤ Lib.indexByte s.data.toList c)
def okName (s : ByteArray) : Bool := decide (1 ≤ (s.size : Int)) && decide ((s.size : Int) ≤ 64) && !(s.toList == [46]) && !(s.toList == [46, 46]) && !hasB s 47 && !hasB s 0
set_option maxHeartbeats 1600000 in
theorem name_calls (s : ByteArray) (w : World) : Calls Try.prog 23 #[.string s] w fun e w' => e = .returned (.bool (okName s)) ∧ w' = w := by
  unfold okName
  have e47 : decide (0 ≤ Lib.indexByte s.data.toList 47) = hasB s 47 := rfl
  have e0 : decide (0 ≤ Lib.indexByte s.data.toList 0) = hasB s 0 := rfl
  have C47 := Aside0.mk (fun w => Try.strings_Contains_one s 47 w)
  have C0 := Aside0.mk (fun w => Try.strings_Contains_one s 0 w)
  rw [e47] at C47; rw [e0] at C0
  generalize hasB s 47 = h47 at *
  generalize hasB s 0 = h0 at *
  generalize h1 : decide (1 ≤ (s.size : Int)) = b1
  generalize h2 : decide ((s.size : Int) ≤ 64) = b2
  generalize h3 : (s.toList == [46]) = b3
  generalize h4 : (s.toList == [46, 46]) = b4
  clear e47 e0
  cases b1 with
  | false =>
    go_enter Try.func23, Try.ntmps23
    go_wp2_with (first | (go_at_call 37; refine (C47.out _).mono ?_; rintro e w' ⟨rfl, rfl⟩) | (go_at_call 37; refine (C0.out _).mono ?_; rintro e w' ⟨rfl, rfl⟩))
    go_ret
    exact ⟨by simp, rfl⟩
  | true =>
    cases b2 with
    | false =>
      go_enter Try.func23, Try.ntmps23
      go_wp2_with (first | (go_at_call 37; refine (C47.out _).mono ?_; rintro e w' ⟨rfl, rfl⟩) | (go_at_call 37; refine (C0.out _).mono ?_; rintro e w' ⟨rfl, rfl⟩))
      go_ret
      exact ⟨by simp, rfl⟩
    | true =>
      cases b3 with
      | true =>
        go_enter Try.func23, Try.ntmps23
        go_wp2_with (first | (go_at_call 37; refine (C47.out _).mono ?_; rintro e w' ⟨rfl, rfl⟩) | (go_at_call 37; refine (C0.out _).mono ?_; rintro e w' ⟨rfl, rfl⟩))
        go_ret
        exact ⟨by simp, rfl⟩
      | false =>
        cases b4 with
        | true =>
          go_enter Try.func23, Try.ntmps23
          go_wp2_with (first | (go_at_call 37; refine (C47.out _).mono ?_; rintro e w' ⟨rfl, rfl⟩) | (go_at_call 37; refine (C0.out _).mono ?_; rintro e w' ⟨rfl, rfl⟩))
          go_ret
          exact ⟨by simp, rfl⟩
        | false =>
          cases h47 with
          | true =>
            go_enter Try.func23, Try.ntmps23
            go_wp2_with (first | (go_at_call 37; refine (C47.out _).mono ?_; rintro e w' ⟨rfl, rfl⟩) | (go_at_call 37; refine (C0.out _).mono ?_; rintro e w' ⟨rfl, rfl⟩))
            go_ret
            exact ⟨by simp, rfl⟩
          | false =>
            cases h0 with
            | true =>
              go_enter Try.func23, Try.ntmps23
              go_wp2_with (first | (go_at_call 37; refine (C47.out _).mono ?_; rintro e w' ⟨rfl, rfl⟩) | (go_at_call 37; refine (C0.out _).mono ?_; rintro e w' ⟨rfl, rfl⟩))
              go_ret
              exact ⟨by simp, rfl⟩
            | false =>
              go_enter Try.func23, Try.ntmps23
              go_wp2_with (first | (go_at_call 37; refine (C47.out _).mono ?_; rintro e w' ⟨rfl, rfl⟩) | (go_at_call 37; refine (C0.out _).mono ?_; rintro e w' ⟨rfl, rfl⟩))
              go_ret
              exact ⟨by simp, rfl⟩
theorem bt_data (s : ByteArray) (j : Nat) (c : UInt8) : (j < s.size ∧ bt s j = (c.toNat : Int)) ↔ s.data.toList[j]? = some c := by
  unfold bt
  constructor
  · rintro ⟨h, e⟩
    rw [dif_pos (by simpa using h)] at e
    have hj : j < s.data.size := h
    rw [Array.getElem?_toList, Array.getElem?_eq_getElem hj]
    congr 1
    apply UInt8.toNat_inj.1
    have e2 : (s[j].toNat : Int) = c.toNat := e
    have : s[j] = s.data[j] := rfl
    rw [← this]; omega
  · intro h
    have hj : j < s.data.toList.length := (List.getElem?_eq_some_iff.1 h).1
    have hj2 : j < s.size := by simpa using hj
    refine ⟨hj2, ?_⟩
    rw [dif_pos (by simpa using hj2)]
    have he : s.data[j] = c := by
      have := (List.getElem?_eq_some_iff.1 h).2
      simpa using this
    show ((s[j].toNat : Nat) : Int) = _
    have : s[j] = s.data[j] := rfl
    rw [this, he]
theorem has_yes (s : ByteArray) (j : Nat) (c : UInt8) (hj : j < s.size) (h : bt s j = (c.toNat : Int)) : hasB s c = true := by
  unfold hasB
  have h1 := Lib.indexByte_ge s.data.toList c
  rw [decide_eq_true_eq]
  by_cases h2 : Lib.indexByte s.data.toList c = -1
  · exact absurd ((bt_data s j c).1 ⟨hj, h⟩) (Lib.indexByte_none h2 j)
  · omega
theorem has_no (s : ByteArray) (c : UInt8) (h : ∀ j, j < s.size → bt s j ≠ (c.toNat : Int)) : hasB s c = false := by
  unfold hasB
  rw [decide_eq_false_iff_not]
  intro h0
  obtain ⟨o, ho⟩ := Int.eq_ofNat_of_zero_le h0
  have := (bt_data s o c).2 (Lib.indexByte_some ho).1
  exact h o this.1 this.2
theorem ref_name_loop (s : ByteArray) (hs : s.size ≤ 4611686018427387904) (d : Nat) : ∀ (j k : Nat), j + d = s.size → d < k → (∀ i, i < j → bt s i ≠ 47 ∧ bt s i ≠ 0) → POct.cofferref15_MayName.l0 k s j = some (okName s) := by
  induction d with
  | zero =>
    intro j k hj hk h
    obtain ⟨k, rfl⟩ : ∃ m, k = m + 1 := ⟨k - 1, by omega⟩
    unfold POct.cofferref15_MayName.l0
    rw [if_neg (by omega)]
    have h1 : hasB s 47 = false := has_no s 47 (fun i hi => (h i (by omega)).1)
    have h2 : hasB s 0 = false := has_no s 0 (fun i hi => (h i (by omega)).2)
    unfold okName
    rw [h1, h2]
    by_cases c1 : (s.size : Int) ≥ 1
    · rw [if_pos c1]
      by_cases c2 : (s.size : Int) ≤ 64
      · rw [if_pos c2]
        by_cases c3 : s.toList = [46]
        · rw [if_pos c3, c3]; simp
        · rw [if_neg c3, decide_eq_true (show 1 ≤ (s.size : Int) from c1), decide_eq_true c2, beq_eq_false_iff_ne.2 c3]; simp; rfl
      · rw [if_neg c2, decide_eq_false c2]; simp
    · rw [if_neg c1, decide_eq_false (show ¬ 1 ≤ (s.size : Int) from c1)]; simp
  | succ d ih =>
    intro j k hj hk h
    obtain ⟨k, rfl⟩ : ∃ m, k = m + 1 := ⟨k - 1, by omega⟩
    unfold POct.cofferref15_MayName.l0
    rw [if_pos (by omega), if_pos (by omega)]
    by_cases c1 : bt s j = 47
    · rw [if_pos c1]
      have := has_yes s j 47 (by omega) c1
      unfold okName
      rw [this]; simp
    · rw [if_neg c1]
      by_cases c2 : bt s j = 0
      · rw [if_pos c2]
        have := has_yes s j 0 (by omega) c2
        unfold okName
        rw [this]; simp
      · rw [if_neg c2, Spc.w64_id (by omega) (by omega), show ((j : Int) + 1) = ((j + 1 : Nat) : Int) by omega]
        refine ih (j + 1) k (by omega) (by omega) (fun i hi => ?_)
        rcases Nat.lt_or_ge i j with h1 | h1
        · exact h i h1
        · obtain rfl : i = j := by omega
          exact ⟨c1, c2⟩
theorem ref_name_calls (s : ByteArray) (w : World) (hs : s.size ≤ 4611686018427387904) : Calls Try.prog 24 #[.string s] w fun e w' => e = .returned (.bool (okName s)) ∧ Drawn0 w w' :=
  POct.cofferref15_MayName.calls (s.size + 2) s (okName s) w (ref_name_loop s hs s.size 0 (s.size + 2) (by omega) (by omega) (fun i hi => absurd hi (by omega)))
end Go.Proofs.Ytmcankeggbofhaa.Nm
namespace Go.Proofs.Ytmcankeggbofhaa.My
open Go.RowKit Go.Proofs.YtmcankeggbofhaaW.PrintWords Go.Proofs.YtmcankeggbofhaaW.PrintLast Go.Proofs.YtmcankeggbofhaaW.PrintMore
open It Nm Ag
set_option linter.unusedVariables false
set_option linter.unusedSimpArgs false
def leS (a b : ByteArray) : Bool := Op.bytesLess a.toList b.toList || a.toList == b.toList
def kindB (k sz : Int) : Bool := (k == 1) || ((k == 2) && (sz == 0))
def okItem (x : Itm) : Bool := okName x.name && !decide (x.size < 0) && kindB x.kind x.size
def at_ (l : List Itm) (i : Nat) : Itm := l.getD i item0
def stepB (l : List Itm) (i : Nat) : Bool := okItem (at_ l i) && !(decide (0 < (i : Int)) && leS (at_ l i).name (at_ l (i - 1)).name)
def mayL (l : List Itm) : Bool := decide (l.length ≤ 64) && (List.range l.length).all (stepB l)
theorem at_get (l : List Itm) (i : Nat) (h : i < l.length) : at_ l i = l[i] := by simp [at_, List.getD_eq_getElem?_getD, List.getElem?_eq_getElem h]
theorem may_no (l : List Itm) (j : Nat) (hj : j < l.length) (h : stepB l j = false) : mayL l = false := by
  unfold mayL
  rw [Bool.and_eq_false_iff, List.all_eq_false]
  exact .inr ⟨j, List.mem_range.2 hj, by simp [h]⟩
theorem may_yes (l : List Itm) (hl : l.length ≤ 64) (h : ∀ j, j < l.length → stepB l j = true) : mayL l = true := by
  unfold mayL
  rw [Bool.and_eq_true, List.all_eq_true]
  exact ⟨by simpa using hl, fun j hj => h j (List.mem_range.1 hj)⟩
theorem step_next {l : List Itm} {j : Nat} (h : ∀ i, i < j → stepB l i = true) (hj : stepB l j = true) : ∀ i, i < j + 1 → stepB l i = true := by
  intro i hi
  rcases Nat.lt_or_ge i j with h1 | h1
  · exact h i h1
  · obtain rfl : i = j := by omega
    exact hj
/-- a struct anywhere is read -/
theorem op_load_at {P : Program} {ops : Array Oper} {rest : List Oper} {o : Oper} {a : Act} {Q : Exit → Act → World → Prop} {W : World} (hgd : o.guard = none) (ty : TypeId) (x : Operand) (ho : o.op = .load ty x) (p v : Value) (hx : a.eval x = p) (h1 : (Instr.loadAt ty p).run P W = .ok v W)
    (h : wpList P ops Q rest (a.put o.dst v) W) : wpList P ops Q (o :: rest) a W := Kd.event_run hgd (load_run ho hx h1) h
set_option maxHeartbeats 3200000 in
theorem may_calls (A : Option Addr) (c : Nat) (l : List Itm) (w : World) (hr : CI w A l) (hc : l.length ≤ c) (hmx : l.length ≤ 9223372036854775807) :
    Calls Try.prog 13 #[.slice A l.length c] w fun e w' => e = .returned (.bool (mayL l)) ∧ Below w.heap.size w w' := by
  have HR := Aside0.mk hr
  by_cases hl : l.length ≤ 64
  · have d1 : decide (64 < (l.length : Int)) = false := by simp; omega
    clear hr
    go_enter Try.func13, Try.ntmps13
    go_wp2
    go_loopw [10] (fun u wr => ∃ j : Nat, j ≤ l.length ∧ u = .int .i64 j ∧ Aside0 (∀ i, i < j → stepB l i = true) ∧ Aside0 (Below w.heap.size w wr)) (fun u _ => l.length - (intOf u).toNat)
    case atStart => exact ⟨0, by omega, rfl, ⟨fun i hi => absurd hi (by omega)⟩, ⟨Below.refl _ _⟩⟩
    case round =>
      obtain ⟨j, hj, rfl, HJ, HB⟩ := hrel
      by_cases hlt : j < l.length
      · obtain ⟨ad, hA, hok, _, hld⟩ := item_at (Kd.C_below HR.out HB.out) j hlt
        subst hA
        rw [← at_get l j hlt] at hok hld
        have HL := Aside0.mk hld
        clear hld
        have HB2 := Aside0.mk (HB.out.alloc HB.out.size (.cells (cellsOf item0).toArray 28))
        have hgz := Aside0.mk (heap_alloc_new wr (.cells (cellsOf item0).toArray 28))
        go_wp2_with (first | (refine op_load_at rfl 28 (.tmp 13) rfl _ _ rfl HL.out ?_) | (with_reducible refine op_alloc rfl 28 rfl _ zero28 ?_) | (refine op_store (w0 := w) w.heap.size rfl 28 (.tmp 4) (.tmp 14) rfl wr.heap.size (cellsOf (at_ l j)).toArray rfl rfl 28 (cellsOf item0).toArray hgz.out 35 info28 (cells_sz hok) (cells_sz ok0) (cells_all _) HB2.out HB.out.size ?_; intro w1 hg1 hw1 HB1; have kn := it_name hg1.out))
        obtain ⟨x, hx⟩ : ∃ x, Aside0 (x = at_ l j) := ⟨_, ⟨rfl⟩⟩
        rw [← hx.out] at kn hg1 ⊢
        clear hw1 HB2 hgz HL
        refine (name_calls x.name w1).mono ?_
        rintro e2 w2 ⟨rfl, hw2⟩
        subst hw2
        have kk := it_kind hg1.out
        have ks := it_size hg1.out (by rw [hx.out]; exact hok)
        cases hn : okName x.name with
        | false =>
          have hst := Aside0.mk (may_no l j hlt (by unfold stepB okItem; rw [← hx.out, hn]; rfl))
          go_wp2_with fail
          go_ret
          exact ⟨by rw [hst.out]; rfl, HB1.out⟩
        | true =>
          go_wp2_with fail
          by_cases h0 : 0 < (j : Int)
          · have d0 : decide (0 < (j : Int)) = true := decide_eq_true h0
            have d0' : decide (0 < j) = true := decide_eq_true (by omega)
            obtain ⟨m, hm, hml⟩ : ∃ m, j - 1 = m ∧ m < l.length := ⟨_, rfl, by omega⟩
            have hwj : IntKind.i64.wrap ((j : Int) - 1) = (m : Int) := by rw [IntKind.wrap_i64]; omega
            obtain ⟨ad', hA', _, kp, _⟩ := item_at (Kd.C_below HR.out HB1.out) m hml
            cases hA'
            rw [← at_get l m hml] at kp
            cases hle : leS x.name (at_ l m).name with
            | true =>
              have hle' : (Op.bytesLess x.name.toList (at_ l m).name.toList || x.name.toList == (at_ l m).name.toList) = true := hle
              have hst := Aside0.mk (may_no l j hlt (by unfold stepB; rw [← hx.out, hm, hle, d0]; simp))
              go_quiet (fail)
              go_wp2_with fail
              go_ret
              exact ⟨by rw [hst.out]; rfl, below_step HB1.out (pw_below_drewN (Below.refl _ _) nq)⟩
            | false =>
              have hle' : (Op.bytesLess x.name.toList (at_ l m).name.toList || x.name.toList == (at_ l m).name.toList) = false := hle
              have hst := Aside0.mk (show stepB l j = okItem x by unfold stepB; rw [← hx.out, hm, hle]; simp)
              go_quiet (fail)
              clear hle hle' kp hwj
              cases hz : decide (x.size < 0) with
              | true =>
                have hno := Aside0.mk (may_no l j hlt (by rw [hst.out]; unfold okItem; rw [hn, hz]; simp))
                go_wp2_with fail
                go_ret
                exact ⟨by rw [hno.out]; rfl, below_step HB1.out (pw_below_drewN (Below.refl _ _) nq)⟩
              | false =>
                by_cases c1 : x.kind = 1
                · have e1 : (x.kind == 1) = true := beq_iff_eq.2 c1
                  have f1 : (x.kind != 1) = false := by simp [c1]
                  have hyes := Aside0.mk (show stepB l j = true by rw [hst.out]; unfold okItem; rw [hn, hz, show kindB x.kind x.size = true by unfold kindB; rw [e1]; rfl]; simp)
                  go_wp2_with fail
                  go_roundw
                  case rel => exact ⟨j + 1, by omega, by go_num, ⟨step_next HJ.out hyes.out⟩, ⟨below_step HB1.out (pw_below_drewN (Below.refl _ _) nq)⟩⟩
                  case measure => simp [intOf]; omega
                · have e1 : (x.kind == 1) = false := beq_eq_false_iff_ne.2 c1
                  have f1 : (x.kind != 1) = true := by simp [c1]
                  by_cases c2 : x.kind = 2
                  · have e2 : (x.kind == 2) = true := beq_iff_eq.2 c2
                    have f2 : (x.kind != 2) = false := by simp [c2]
                    by_cases c3 : x.size = 0
                    · have e3 : (x.size == 0) = true := beq_iff_eq.2 c3
                      have f3 : (x.size != 0) = false := by simp [c3]
                      clear c1 c2 c3
                      have hyes := Aside0.mk (show stepB l j = true by rw [hst.out]; unfold okItem; rw [hn, hz, show kindB x.kind x.size = true by unfold kindB; rw [e1, e2, e3]; rfl]; simp)
                      go_wp2_with fail
                      go_roundw
                      case rel => exact ⟨j + 1, by omega, by go_num, ⟨step_next HJ.out hyes.out⟩, ⟨below_step HB1.out (pw_below_drewN (Below.refl _ _) nq)⟩⟩
                      case measure => simp [intOf]; omega
                    · have e3 : (x.size == 0) = false := beq_eq_false_iff_ne.2 c3
                      have f3 : (x.size != 0) = true := by simp [c3]
                      clear c1 c2 c3
                      have hno := Aside0.mk (may_no l j hlt (by rw [hst.out]; unfold okItem; rw [hn, hz, show kindB x.kind x.size = false by unfold kindB; rw [e1, e2, e3]; rfl]; simp))
                      go_wp2_with fail
                      go_ret
                      exact ⟨by rw [hno.out]; rfl, below_step HB1.out (pw_below_drewN (Below.refl _ _) nq)⟩
                  · have e2 : (x.kind == 2) = false := beq_eq_false_iff_ne.2 c2
                    have f2 : (x.kind != 2) = true := by simp [c2]
                    clear c1 c2
                    have hno := Aside0.mk (may_no l j hlt (by rw [hst.out]; unfold okItem; rw [hn, hz, show kindB x.kind x.size = false by unfold kindB; rw [e1, e2]; rfl]; simp))
                    go_wp2_with fail
                    go_ret
                    exact ⟨by rw [hno.out]; rfl, below_step HB1.out (pw_below_drewN (Below.refl _ _) nq)⟩
          · have d0 : decide (0 < (j : Int)) = false := decide_eq_false h0
            have d0' : decide (0 < j) = false := decide_eq_false (by omega)
            have hst := Aside0.mk (show stepB l j = okItem x by unfold stepB; rw [← hx.out, d0]; simp)
            go_quiet (fail)
            clear d0 d0' h0
            cases hz : decide (x.size < 0) with
            | true =>
              have hno := Aside0.mk (may_no l j hlt (by rw [hst.out]; unfold okItem; rw [hn, hz]; simp))
              go_wp2_with fail
              go_ret
              exact ⟨by rw [hno.out]; rfl, below_step HB1.out (pw_below_drewN (Below.refl _ _) nq)⟩
            | false =>
              by_cases c1 : x.kind = 1
              · have e1 : (x.kind == 1) = true := beq_iff_eq.2 c1
                have f1 : (x.kind != 1) = false := by simp [c1]
                have hyes := Aside0.mk (show stepB l j = true by rw [hst.out]; unfold okItem; rw [hn, hz, show kindB x.kind x.size = true by unfold kindB; rw [e1]; rfl]; simp)
                go_wp2_with fail
                go_roundw
                case rel => exact ⟨j + 1, by omega, by go_num, ⟨step_next HJ.out hyes.out⟩, ⟨below_step HB1.out (pw_below_drewN (Below.refl _ _) nq)⟩⟩
                case measure => simp [intOf]; omega
              · have e1 : (x.kind == 1) = false := beq_eq_false_iff_ne.2 c1
                have f1 : (x.kind != 1) = true := by simp [c1]
                by_cases c2 : x.kind = 2
                · have e2 : (x.kind == 2) = true := beq_iff_eq.2 c2
                  have f2 : (x.kind != 2) = false := by simp [c2]
                  by_cases c3 : x.size = 0
                  · have e3 : (x.size == 0) = true := beq_iff_eq.2 c3
                    have f3 : (x.size != 0) = false := by simp [c3]
                    clear c1 c2 c3
                    have hyes := Aside0.mk (show stepB l j = true by rw [hst.out]; unfold okItem; rw [hn, hz, show kindB x.kind x.size = true by unfold kindB; rw [e1, e2, e3]; rfl]; simp)
                    go_wp2_with fail
                    go_roundw
                    case rel => exact ⟨j + 1, by omega, by go_num, ⟨step_next HJ.out hyes.out⟩, ⟨below_step HB1.out (pw_below_drewN (Below.refl _ _) nq)⟩⟩
                    case measure => simp [intOf]; omega
                  · have e3 : (x.size == 0) = false := beq_eq_false_iff_ne.2 c3
                    have f3 : (x.size != 0) = true := by simp [c3]
                    clear c1 c2 c3
                    have hno := Aside0.mk (may_no l j hlt (by rw [hst.out]; unfold okItem; rw [hn, hz, show kindB x.kind x.size = false by unfold kindB; rw [e1, e2, e3]; rfl]; simp))
                    go_wp2_with fail
                    go_ret
                    exact ⟨by rw [hno.out]; rfl, below_step HB1.out (pw_below_drewN (Below.refl _ _) nq)⟩
                · have e2 : (x.kind == 2) = false := beq_eq_false_iff_ne.2 c2
                  have f2 : (x.kind != 2) = true := by simp [c2]
                  clear c1 c2
                  have hno := Aside0.mk (may_no l j hlt (by rw [hst.out]; unfold okItem; rw [hn, hz, show kindB x.kind x.size = false by unfold kindB; rw [e1, e2]; rfl]; simp))
                  go_wp2_with fail
                  go_ret
                  exact ⟨by rw [hno.out]; rfl, below_step HB1.out (pw_below_drewN (Below.refl _ _) nq)⟩
      · obtain rfl : j = l.length := by omega
        go_wp2
        go_ret
        exact ⟨by rw [may_yes l hl HJ.out]; rfl, HB.out⟩
  · have d1 : decide (64 < (l.length : Int)) = true := by simp; omega
    clear hr
    go_enter Try.func13, Try.ntmps13
    go_wp2
    go_ret
    exact ⟨by rw [mayL, decide_eq_false hl]; rfl, Below.refl _ _⟩
end Go.Proofs.Ytmcankeggbofhaa.My
namespace Go.Proofs.Ytmcankeggbofhaa.Rm
open Go.RowKit Go.Proofs.YtmcankeggbofhaaW.PrintWords Go.Proofs.YtmcankeggbofhaaW.PrintLast Go.Proofs.YtmcankeggbofhaaW.PrintMore
open It Nm Ag My
set_option linter.unusedVariables false
set_option linter.unusedSimpArgs false
theorem less_total : ∀ a b : List UInt8, (!Op.bytesLess b a) = (Op.bytesLess a b || a == b)
  | [], [] => rfl
  | [], y :: b => by simp [Op.bytesLess]
  | x :: a, [] => by simp [Op.bytesLess]
  | x :: a, y :: b => by
    have ih := less_total a b
    by_cases h : x = y
    · subst h
      have hlt : ¬ x < x := by rw [UInt8.lt_iff_toNat_lt]; omega
      simp only [Op.bytesLess, hlt, decide_false, Bool.false_or, beq_self_eq_true, Bool.true_and, List.cons_beq_cons]
      exact ih
    · have hne : (x == y) = false := beq_eq_false_iff_ne.2 h
      have hne2 : (y == x) = false := beq_eq_false_iff_ne.2 (fun e => h e.symm)
      simp only [Op.bytesLess, hne, hne2, Bool.false_and, Bool.or_false, List.cons_beq_cons]
      have h3 : x.toNat ≠ y.toNat := fun e => h (UInt8.toNat_inj.1 e)
      by_cases h1 : x < y
      · have h2 : ¬ y < x := by rw [UInt8.lt_iff_toNat_lt] at h1 ⊢; omega
        simp [h1, h2]
      · have h2 : y < x := by rw [UInt8.lt_iff_toNat_lt] at h1 ⊢; omega
        simp [h1, h2]
theorem leS_not (a b : ByteArray) : leS a b = !Op.bytesLess b.toList a.toList := (less_total a.toList b.toList).symm
theorem ref_name_quiet (s : ByteArray) (w : World) (n : Nat) (b : Bool) (hs : s.size ≤ 4611686018427387904) (hb : okName s = b) : Calls Try.prog 24 #[.string s] (w.drewN n) fun e w'' => e = .returned (.bool b) ∧ ∃ m, w'' = w.drewN m :=
  Calls.quiet_of ((ref_name_calls s _ hs).mono fun e w h => ⟨by rw [h.1, hb], h.2.out⟩)
set_option maxHeartbeats 6400000 in
theorem ref_may_calls (A : Option Addr) (c : Nat) (l : List Itm) (w : World) (hr : CI w A l) (hc : l.length ≤ c) (hmx : l.length ≤ 9223372036854775807) (hnn : ∀ i, (at_ l i).name.size ≤ 4611686018427387904) :
    Calls Try.prog 16 #[.slice A l.length c] w fun e w' => e = .returned (.bool (mayL l)) ∧ Below w.heap.size w w' := by
  have HR := Aside0.mk hr
  have HNN := Aside0.mk hnn
  clear hnn
  by_cases hl : l.length ≤ 64
  · have d1 : decide (64 < (l.length : Int)) = false := by simp; omega
    clear hr
    go_enter Try.func16, Try.ntmps16
    go_wp2
    go_loopw [3] (fun u wr => ∃ j : Nat, j ≤ l.length ∧ u = .int .i64 j ∧ Aside0 (∀ i, i < j → stepB l i = true) ∧ Aside0 (Below w.heap.size w wr)) (fun u _ => l.length - (intOf u).toNat)
    case atStart => exact ⟨0, by omega, rfl, ⟨fun i hi => absurd hi (by omega)⟩, ⟨Below.refl _ _⟩⟩
    case round =>
      obtain ⟨j, hj, rfl, HJ, HB⟩ := hrel
      by_cases hlt : j < l.length
      · obtain ⟨ad, hA, hok, _, hld⟩ := item_at (Kd.C_below HR.out HB.out) j hlt
        subst hA
        rw [← at_get l j hlt] at hok hld
        have HL := Aside0.mk hld
        clear hld
        have HB2 := Aside0.mk (HB.out.alloc HB.out.size (.cells (cellsOf item0).toArray 28))
        have hgz := Aside0.mk (heap_alloc_new wr (.cells (cellsOf item0).toArray 28))
        go_wp2_with (first | (refine op_load_at rfl 28 (.tmp 16) rfl _ _ rfl HL.out ?_) | (with_reducible refine op_alloc rfl 28 rfl _ zero28 ?_) | (refine op_store (w0 := w) w.heap.size rfl 28 (.tmp 4) (.tmp 17) rfl wr.heap.size (cellsOf (at_ l j)).toArray rfl rfl 28 (cellsOf item0).toArray hgz.out 35 info28 (cells_sz hok) (cells_sz ok0) (cells_all _) HB2.out HB.out.size ?_; intro w1 hg1 hw1 HB1; have kn := it_name hg1.out; have kk := it_kind hg1.out; have ks := it_size hg1.out hok))
        obtain ⟨x, hx⟩ : ∃ x, Aside0 (x = at_ l j) := ⟨_, ⟨rfl⟩⟩
        have hnm := HNN.out j
        rw [← hx.out] at kn kk ks hg1 hnm ⊢
        have hst : Aside0 (stepB l j = (okItem x && !(decide (0 < (j : Int)) && leS x.name (at_ l (j - 1)).name))) := ⟨by unfold stepB; rw [← hx.out]⟩
        clear hw1 HB2 hgz HL
        simp only [Act.put, List.setIfInBounds_toArray, List.set_cons_zero, List.set_cons_succ]
        cases hn : okName x.name with
        | false =>
          have hno := Aside0.mk (may_no l j hlt (by rw [hst.out]; unfold okItem kindB; rw [hn]; simp))
          go_big_quiet ((go_at_call 24; exact ref_name_quiet x.name _ _ _ hnm hn))
          go_wp2_with fail
          go_ret
          exact ⟨by rw [hno.out]; rfl, below_step HB1.out (pw_below_drewN (Below.refl _ _) nq)⟩
        | true =>
          by_cases c1 : x.kind < 1
          · have e1 : decide (x.kind < 1) = true := decide_eq_true c1
            have b1 : (x.kind == 1) = false := beq_eq_false_iff_ne.2 (by omega)
            have b2 : (x.kind == 2) = false := beq_eq_false_iff_ne.2 (by omega)
            have hno := Aside0.mk (may_no l j hlt (by rw [hst.out]; unfold okItem kindB; rw [b1, b2]; simp))
            go_big_quiet ((go_at_call 24; exact ref_name_quiet x.name _ _ _ hnm hn))
            go_wp2_with fail
            go_ret
            exact ⟨by rw [hno.out]; rfl, below_step HB1.out (pw_below_drewN (Below.refl _ _) nq)⟩
          have e1 : decide (x.kind < 1) = false := decide_eq_false c1
          by_cases c2 : 2 < x.kind
          · have e2 : decide (2 < x.kind) = true := decide_eq_true c2
            have b1 : (x.kind == 1) = false := beq_eq_false_iff_ne.2 (by omega)
            have b2 : (x.kind == 2) = false := beq_eq_false_iff_ne.2 (by omega)
            have hno := Aside0.mk (may_no l j hlt (by rw [hst.out]; unfold okItem kindB; rw [b1, b2]; simp))
            go_big_quiet ((go_at_call 24; exact ref_name_quiet x.name _ _ _ hnm hn))
            go_wp2_with fail
            go_ret
            exact ⟨by rw [hno.out]; rfl, below_step HB1.out (pw_below_drewN (Below.refl _ _) nq)⟩
          have e2 : decide (2 < x.kind) = false := decide_eq_false c2
          cases hz : decide (x.size < 0) with
          | true =>
            have hno := Aside0.mk (may_no l j hlt (by rw [hst.out]; unfold okItem kindB; rw [hz]; simp))
            go_big_quiet ((go_at_call 24; exact ref_name_quiet x.name _ _ _ hnm hn))
            go_wp2_with fail
            go_ret
            exact ⟨by rw [hno.out]; rfl, below_step HB1.out (pw_below_drewN (Below.refl _ _) nq)⟩
          | false =>
            by_cases c3 : x.kind = 2
            · have b2 : (x.kind == 2) = true := beq_iff_eq.2 c3
              by_cases c4 : x.size = 0
              · have b0 : (x.size == 0) = true := beq_iff_eq.2 c4
                have b0' : (x.size != 0) = false := by simp [c4]
                clear c1 c2 c3 c4
                by_cases h0 : 0 < (j : Int)
                · have d0 : decide (0 < (j : Int)) = true := decide_eq_true h0
                  have d0' : decide (0 < j) = true := decide_eq_true (by omega)
                  obtain ⟨m, hm, hml⟩ : ∃ m, j - 1 = m ∧ m < l.length := ⟨_, rfl, by omega⟩
                  have hwj : IntKind.i64.wrap ((j : Int) - 1) = (m : Int) := by rw [IntKind.wrap_i64]; omega
                  obtain ⟨ad', hA', _, kp, _⟩ := item_at (Kd.C_below HR.out HB1.out) m hml
                  cases hA'
                  rw [← at_get l m hml] at kp
                  cases hle : Op.bytesLess (at_ l m).name.toList x.name.toList with
                  | false =>
                    have hls : leS x.name (at_ l m).name = true := by rw [leS_not, hle]; rfl
                    have hno := Aside0.mk (may_no l j hlt (by rw [hst.out]; unfold okItem kindB; rw [hm, hls, d0]; simp))
                    go_big_quiet ((go_at_call 24; exact ref_name_quiet x.name _ _ _ hnm hn))
                    go_wp2_with fail
                    go_ret
                    exact ⟨by rw [hno.out]; rfl, below_step HB1.out (pw_below_drewN (Below.refl _ _) nq)⟩
                  | true =>
                    have hls : leS x.name (at_ l m).name = false := by rw [leS_not, hle]; rfl
                    have hyes := Aside0.mk (show stepB l j = true by rw [hst.out]; unfold okItem kindB; rw [hm, hls, hn, hz, b2, b0]; simp)
                    go_big_quiet ((go_at_call 24; exact ref_name_quiet x.name _ _ _ hnm hn))
                    go_wp2_with fail
                    go_roundw
                    case rel => exact ⟨j + 1, by omega, by go_num, ⟨step_next HJ.out hyes.out⟩, ⟨below_step HB1.out (pw_below_drewN (Below.refl _ _) nq)⟩⟩
                    case measure => simp [intOf]; omega
                · have d0 : decide (0 < (j : Int)) = false := decide_eq_false h0
                  have d0' : decide (0 < j) = false := decide_eq_false (by omega)
                  have hyes := Aside0.mk (show stepB l j = true by rw [hst.out]; unfold okItem kindB; rw [d0, hn, hz, b2, b0]; simp)
                  go_big_quiet ((go_at_call 24; exact ref_name_quiet x.name _ _ _ hnm hn))
                  go_wp2_with fail
                  go_roundw
                  case rel => exact ⟨j + 1, by omega, by go_num, ⟨step_next HJ.out hyes.out⟩, ⟨below_step HB1.out (pw_below_drewN (Below.refl _ _) nq)⟩⟩
                  case measure => simp [intOf]; omega
              · have b0 : (x.size == 0) = false := beq_eq_false_iff_ne.2 c4
                have b0' : (x.size != 0) = true := by simp [c4]
                have b1 : (x.kind == 1) = false := beq_eq_false_iff_ne.2 (by omega)
                clear c1 c2 c3 c4
                have hno := Aside0.mk (may_no l j hlt (by rw [hst.out]; unfold okItem kindB; rw [b1, b0]; simp))
                go_big_quiet ((go_at_call 24; exact ref_name_quiet x.name _ _ _ hnm hn))
                go_wp2_with fail
                go_ret
                exact ⟨by rw [hno.out]; rfl, below_step HB1.out (pw_below_drewN (Below.refl _ _) nq)⟩
            · have b2 : (x.kind == 2) = false := beq_eq_false_iff_ne.2 c3
              have b1 : (x.kind == 1) = true := beq_iff_eq.2 (by omega)
              clear c1 c2 c3
              by_cases h0 : 0 < (j : Int)
              · have d0 : decide (0 < (j : Int)) = true := decide_eq_true h0
                have d0' : decide (0 < j) = true := decide_eq_true (by omega)
                obtain ⟨m, hm, hml⟩ : ∃ m, j - 1 = m ∧ m < l.length := ⟨_, rfl, by omega⟩
                have hwj : IntKind.i64.wrap ((j : Int) - 1) = (m : Int) := by rw [IntKind.wrap_i64]; omega
                obtain ⟨ad', hA', _, kp, _⟩ := item_at (Kd.C_below HR.out HB1.out) m hml
                cases hA'
                rw [← at_get l m hml] at kp
                cases hle : Op.bytesLess (at_ l m).name.toList x.name.toList with
                | false =>
                  have hls : leS x.name (at_ l m).name = true := by rw [leS_not, hle]; rfl
                  have hno := Aside0.mk (may_no l j hlt (by rw [hst.out]; unfold okItem kindB; rw [hm, hls, d0]; simp))
                  go_big_quiet ((go_at_call 24; exact ref_name_quiet x.name _ _ _ hnm hn))
                  go_wp2_with fail
                  go_ret
                  exact ⟨by rw [hno.out]; rfl, below_step HB1.out (pw_below_drewN (Below.refl _ _) nq)⟩
                | true =>
                  have hls : leS x.name (at_ l m).name = false := by rw [leS_not, hle]; rfl
                  have hyes := Aside0.mk (show stepB l j = true by rw [hst.out]; unfold okItem kindB; rw [hm, hls, hn, hz, b1]; simp)
                  go_big_quiet ((go_at_call 24; exact ref_name_quiet x.name _ _ _ hnm hn))
                  go_wp2_with fail
                  go_roundw
                  case rel => exact ⟨j + 1, by omega, by go_num, ⟨step_next HJ.out hyes.out⟩, ⟨below_step HB1.out (pw_below_drewN (Below.refl _ _) nq)⟩⟩
                  case measure => simp [intOf]; omega
              · have d0 : decide (0 < (j : Int)) = false := decide_eq_false h0
                have d0' : decide (0 < j) = false := decide_eq_false (by omega)
                have hyes := Aside0.mk (show stepB l j = true by rw [hst.out]; unfold okItem kindB; rw [d0, hn, hz, b1]; simp)
                go_big_quiet ((go_at_call 24; exact ref_name_quiet x.name _ _ _ hnm hn))
                go_wp2_with fail
                go_roundw
                case rel => exact ⟨j + 1, by omega, by go_num, ⟨step_next HJ.out hyes.out⟩, ⟨below_step HB1.out (pw_below_drewN (Below.refl _ _) nq)⟩⟩
                case measure => simp [intOf]; omega
      · obtain rfl : j = l.length := by omega
        go_wp2
        go_ret
        exact ⟨by rw [may_yes l hl HJ.out]; rfl, HB.out⟩
  · have d1 : decide (64 < (l.length : Int)) = true := by simp; omega
    clear hr
    go_enter Try.func16, Try.ntmps16
    go_wp2
    go_ret
    exact ⟨by rw [mayL, decide_eq_false hl]; rfl, Below.refl _ _⟩
end Go.Proofs.Ytmcankeggbofhaa.Rm
