/- Small functions of package isa: width, Size, extend, known. Condition: a byte is from 0 to 255. -/
import Derived.WalkKit
import Derived.WalkSpells
import Derived.OrdersHeld
import Derived.Deep.RegionHeld
import Derived.Deep.WholeRow
import Derived.Test.YteofmaiojepdkaaGreatRows
import Derived.WalkLawsBesides
import Derived.Deep.LoopGhost
import Derived.Deep.Cut
import Derived.Deep.CutBlock
import Derived.Lib.Hide
import Derived.Laws.CopyOwn
import Derived.Laws.AppendOwnNone
import Derived.Maps.AppendAt
import Derived.Deep.RegionHeld3
import Derived.Orders
import Derived.Deep.MidRow
import Derived.Laws.CopyRow
set_option linter.all false
namespace Go.Proofs.YteofmaiojepdkaaGreat
open Go Go.RowKit
theorem zh {p : Prop} (h : p) : Go.RowKit.Hid p := Go.Lib.hid h
theorem zn (n : Nat) : n ≤ n := Nat.le_refl n
structure MBox (q : Prop) : Prop where
 out : q
def MPar {α : Type} (_ : α) : Prop := True
abbrev MPar.val {α : Type} {x : α} (_ : MPar x) : α := x
theorem pts {p q : Prop} (hq : q) (h : MBox q → p := by intro hb; (try simp only [List.getElem_toArray, List.getElem_cons_succ, List.getElem_cons_zero, Act.put, List.setIfInBounds_toArray, List.set_cons_zero, List.set_cons_succ]); exact hb.out) : p := h ⟨hq⟩
theorem wpAnyH_takeP {P : Program} {md : Region.Mode} {ops : Array Oper} {Q : Exit → Act → World → Prop} {S : World → Prop} {i : Nat} (_ : MPar i) {oi : Oper} {v : Value} {fuel : Nat} {listed : Array Bool} {a : Act} {w : World} (hi : ops[i]? = some oi)
  (hs : Region.noSelect ops = true) (hf : Region.free md ops listed i = true) (hr : (Region.ready md ops listed).contains i = true)
  (hQ : ∀ c a w, Q (.panic c) (a.put oi.dst v) w → Q (.panic c) a w) (hy : YieldsIf P ops S oi v a) (hS : S w)
  (h : wpAnyH P md ops Q S fuel (listed.setIfInBounds i true) (a.put oi.dst v) w) : wpAnyH P md ops Q S (fuel + 1) listed a w :=
 wpAnyH_take hi hs hf hr hQ hy hS h
theorem tak (i : Nat) {p q : Prop} (hq : q) (h : MPar i → MBox q → p := by
  intro hi hb
  refine wpAnyH_takeP hi (oi := _) (v := ?_) rfl (by kernel_rfl) (by kernel_rfl) (by kernel_rfl) (fun _ _ _ h => h) (Or.inl ⟨by rfl, ?_⟩) (by assumption) ?_
  rotate_left
  (focus (intro w hSw; (try dsimp only at hSw); go_simp; try with_reducible rfl))
  (try simp only [List.getElem_toArray, List.getElem_cons_succ, List.getElem_cons_zero, Act.put, List.setIfInBounds_toArray, List.set_cons_zero, List.set_cons_succ])
  exact hb.out) : p := h trivial ⟨hq⟩
theorem tkH {P : Program} {ops : Array Oper} {Q : Exit → Act → World → Prop} {md : Region.Mode} {S : World → Prop} {i : Nat} (_ : MPar i) {oi : Oper} {v : Value} {fuel : Nat} {listed : Array Bool} {a : Act} {w : World} (hi : ops[i]? = some oi) (hS : S w)
  (hy : ∀ w, S w → (execOp a.eval oi).run P w = .ok (.value v) w) (h : wpAnyH P md ops Q S fuel (listed.setIfInBounds i true) (a.put oi.dst v) w)
  (hs : Region.noSelect ops = true := by kernel_rfl) (hf : Region.free md ops listed i = true := by kernel_rfl) (hr : (Region.ready md ops listed).contains i = true := by kernel_rfl)
  (hQ : ∀ c a w, Q (.panic c) (a.put oi.dst v) w → Q (.panic c) a w := by exact fun _ _ _ h => h) (hw : Region.wanted oi (yielded ops a.tmps) = true := by rfl) : wpAnyH P md ops Q S (fuel + 1) listed a w :=
 wpAnyH_take hi hs hf hr hQ (.inl ⟨hw, hy⟩) hS h
theorem tke (i : Nat) {p q : Prop} (hq : q) (h : MPar i → MBox q → p := by
  intro hi hb
  refine tkH hi (v := ?_) rfl (by assumption) ?_ ?_
  rotate_left
  (focus (intro w hSw; (try dsimp only at hSw); go_simp; try with_reducible rfl))
  (try simp only [List.getElem_toArray, List.getElem_cons_succ, List.getElem_cons_zero, Act.put, List.setIfInBounds_toArray, List.set_cons_zero, List.set_cons_succ])
  exact hb.out) : p := h trivial ⟨hq⟩
theorem stN {p q : Prop} (hq : q) (h : MBox q → p := by
  intro hb
  refine wpList_store_row rfl _ _ _ rfl _ _ rfl rfl _ _ (heap_alloc_new _ _) ?_ ?_ ?_ ?_
  kernel_rfl
  rfl
  kernel_rfl
  rw [World.setRow_alloc_new]
  exact hb.out) : p := h ⟨hq⟩
theorem stR {H p q : Prop} (hg : H) (hq : q) (h : H → MBox q → p := by
  intro hg hb
  refine wpList_store_row rfl _ _ _ rfl _ _ rfl rfl _ _ hg ?_ ?_ ?_ ?_
  kernel_rfl
  rfl
  kernel_rfl
  exact hb.out) : p := h hg ⟨hq⟩
theorem ldT (T : TypeId) {H p q : Prop} (hg : H) (hq : q) (h : MPar T → H → MBox q → p := by
  intro hT hg hb
  refine wpList_load_rowB hT.val _ rfl _ rfl _ _ _ hg ?_ ?_ ?_
  kernel_rfl
  kernel_rfl
  exact hb.out) : p := h trivial hg ⟨hq⟩
theorem ldB {H p q : Prop} (hg : H) (hq : q) (h : H → MBox q → p := by
  intro hg hb
  refine wpList_load_rowB _ _ rfl _ rfl _ _ _ hg ?_ ?_ ?_
  kernel_rfl
  kernel_rfl
  exact hb.out) : p := h hg ⟨hq⟩
end Go.Proofs.YteofmaiojepdkaaGreat
namespace Go.Proofs.YteofmaiojepdkaaGreat
open Go.RowKit
def vi (n : Int) : Value := .int .i64 n
def vw (n : Int) : Value := .int .u16 n
theorem zd {P : Program} {fn : Func} {p u : Tmp} {ty : TypeId} (h : fn.results = #[.cell p ty, .tmp u]) (tmps : Array Value) (w : World) (g : Nat) (t : TypeId) (cs : Array Value) (fr : Nat × Nat) (d : TypeDesc)
  (hp : tmps.getD p undef = .pointer (some ⟨g, 0, none⟩)) (hg : w.heap[g]? = some (.cells cs t fr))
  (hu : P.underlying ty = some d) (hd : (match d with | .struct _ | .array _ _ => true | _ => false) = true) (hi : (P.info? ty).map (·.size) = some cs.size) :
  (results fn tmps).run P w = .ok (.tuple #[.agg cs, tmps.getD u undef]) w := by
 rw [results_cell_tmp h, hp]
 simp [asAddr, Result.andThen, run_loadVar_row w g t ty cs fr d hg hu hd hi]
theorem lt_of_below_alloc {w wr : World} {o : Obj} {B : Nat} (hb : Below B (w.alloc o) wr) : w.heap.size < wr.heap.size := by
 have := hb.size; simp at this; omega
structure Ins where
 op : Int
 d : Int
 s : Int
 imm : Int
 aux : Int
 bank : Int
 size : Int
def ja (n : Int) : Prop := -9223372036854775808 ≤ n ∧ n ≤ 9223372036854775807
structure Ins.Ok (i : Ins) : Prop where
 op : ja i.op
 d : ja i.d
 s : ja i.s
 imm : 0 ≤ i.imm ∧ i.imm < 65536
 aux : 0 ≤ i.aux ∧ i.aux < 65536
 bank : ja i.bank
 size : ja i.size
end Go.Proofs.YteofmaiojepdkaaGreat
namespace Go.Proofs.YteofmaiojepdkaaGreat
open Go.RowKit
def bv (l : List Int) : List Value := l.map (Value.int .u8)
def strOf (l : List Int) : ByteArray := ⟨(l.map fun n => UInt8.ofNat n.toNat).toArray⟩
theorem strOf_size (l : List Int) : (strOf l).size = l.length := by simp [strOf, ByteArray.size]
theorem foldl_push (l : List Int) : ∀ s : ByteArray, (l.foldl (fun r n => r.push (UInt8.ofNat n.toNat)) s) = ⟨s.data ++ (l.map fun n => UInt8.ofNat n.toNat).toArray⟩ := by
 induction l with
 | nil => intro s; simp
 | cons n l ih =>
  intro s
  rw [List.foldl_cons, ih]
  simp [ByteArray.push]
section
variable {P : Program}
theorem run_conv_row (w : World) (src dst e : TypeId) (hs : P.underlying src = some (.slice e)) (he : P.underlying e = some (.int .u8)) (hd : P.underlying dst = some .string)
  (v : Value) (n base : Nat) (l : List Int) (h : w.ownsRow base e 1 v n (bv l)) : (convert src dst v).run P w = .ok (.string (strOf l)) w := by
 obtain ⟨hl, h⟩ := h
 rcases h with ⟨rfl, hn⟩ | ⟨g, cap, cur, rfl, hb, hg, hnc, hcm, hcs, htake⟩
 ·rw [run_convert_bytes_string w src dst e _ _ _ hs he hd]
  have : l = [] := by
   have : (bv l).length = 0 := by rw [hl, hn]
   simpa [bv] using this
  subst this
  rfl
 ·rw [run_convert_bytes_string w src dst e _ _ _ hs he hd]
  have hll : l.length = n := by simpa [bv] using hl
  have hload : (loadCells ⟨g, 0, none⟩ n).run P w = .ok (l.map (Value.int .u8)).toArray w := by
   have := run_loadCells_list (P := P) w ⟨g, 0, none⟩ (l.map (Value.int .u8)) (fun j u hu => by
    have hadd : (⟨g, 0, none⟩ : Addr).add j = ⟨g, j, none⟩ := by unfold Addr.add; split <;> simp_all
    rw [hadd, cell_of_row w g j cur e _ hg]
    have hj : j < n := by
     have := (List.getElem?_eq_some_iff.1 hu).1
     simpa [hll] using this
    have h1 : (cur.toList.take (n * 1))[j]? = cur.toList[j]? := by rw [List.getElem?_take]; simp [hj]
    rw [htake] at h1
    rw [← Array.getElem?_toList, ← h1]
    exact hu)
   simpa [hll] using this
  rw [run_bytesToString w ⟨g, 0, none⟩ n cap l hload, foldl_push]
  simp [strOf, ByteArray.empty, ByteArray.emptyWithCapacity]
  try rfl
theorem wpList_append_rows {w : World} {ops : Array Oper} {rest : List Oper} {o : Oper} {a : Act} {Q : Exit → Act → World → Prop} (hgd : o.guard = none) (s x : Operand) (t : TypeId)
  (ho : o.op = .call { callee := .builtin .append, args := #[s, x], argTypes := #[t, t] })
  (base : Nat) (e : TypeId) (i : TypeInfo) (z : Value) (bytes : Nat) (ht : P.underlying t = some (.slice e)) (hi : P.info? e = some i) (hz : i.zero = some z)
  (hsize : i.size = 1) (hby : i.bytes = bytes) (hzs : z.cells.size = 1)
  (v : Value) (n : Nat) (xs : List Value) (hs : a.eval s = v) (hown : w.ownsRow base e 1 v n xs)
  (y : Value) (m bx : Nat) (news : List Value) (hx : a.eval x = y) (hownx : w.ownsRow bx e 1 y m news) (h1 : ∀ u ∈ news, u.oneCell' = true)
  (h63 : n + m ≤ maxLen) (hbytes : (n + m) * bytes ≤ 140737488355328) (hbase : base ≤ w.heap.size)
  (h : ∀ v' w', w'.ownsRow base e 1 v' (n + m) (xs ++ news) → w.grownBy w' v.ownBlock → wpList P ops Q rest (a.put o.dst v') w') : wpList P ops Q (o :: rest) a w := by
 obtain ⟨hl, hc⟩ := hownx
 rcases hc with ⟨rfl, hn⟩ | ⟨g, cap, cur, rfl, hb, hg, hnc, hcm, hcs, htake⟩
 ·subst hn
  have : news = [] := List.eq_nil_of_length_eq_zero (by simpa using hl)
  subst this
  refine wpList_append_own_none hgd s x t ho base e i 1 ht hi v n xs hs hown hx (h v w ?_ ?_)
  ·simpa using hown
  ·exact ⟨rfl, rfl, rfl, zn _, fun _ _ _ => rfl⟩
 ·refine wpList_append_own _ hgd s x t ho base e i z 1 bytes ht hi hz hsize hby hzs (by decide) v n xs hs hown ⟨g, 0, none⟩ m cap news hx (by simpa using hl) (fun j u hu => ?_) h1 h63 hbytes hbase (fun v' w' h2 h3 _ => h v' w' h2 h3)
  have hadd : (⟨g, 0, none⟩ : Addr).add j = ⟨g, j, none⟩ := by unfold Addr.add; split <;> simp_all
  rw [hadd, cell_of_row w g j cur e _ hg]
  have hj : j < m := by
   have := (List.getElem?_eq_some_iff.1 hu).1
   omega
  have h1 : (cur.toList.take (m * 1))[j]? = cur.toList[j]? := by rw [List.getElem?_take]; simp [hj]
  rw [htake] at h1
  rw [← Array.getElem?_toList, ← h1]
  exact hu
theorem exec_load_row {o : Oper} {a : Act} {w : World} (ty : TypeId) (x : Operand) (ho : o.op = .load ty x)
  (g : Nat) (hx : a.eval x = .pointer (some ⟨g, 0, none⟩)) (t : TypeId) (cs : Array Value) (fr : Nat × Nat) (d : TypeDesc) (hg : w.heap[g]? = some (.cells cs t fr))
  (hu : P.underlying ty = some d) (hd : (match d with | .struct _ | .array _ _ => true | _ => false) = true) (hi : (P.info? ty).map (·.size) = some cs.size) :
  (execOp a.eval o).run P w = .ok (.value (.agg cs)) w := by
 unfold execOp
 simp only [ho, hx, Instr.loadAt, Instr.sureAddr, Sem.run_bind, Sem.run_pure, Result.andThen_ok, run_loadVar_row w g t ty cs fr d hg hu hd hi]
theorem exec_convert {o : Oper} {a : Act} {w : World} (src dst : TypeId) (x : Operand) (ho : o.op = .convert src dst x) (v r : Value) (hx : a.eval x = v) (hr : (convert src dst v).run P w = .ok r w) :
  (execOp a.eval o).run P w = .ok (.value r) w := by
 unfold execOp
 simp only [ho, hx, Sem.run_bind, hr, Sem.run_pure, Result.andThen_ok]
end
theorem bv_one (l : List Int) : ∀ u ∈ bv l, u.oneCell' = true := by
 intro u hu
 obtain ⟨n, _, rfl⟩ := List.mem_map.1 hu
 rfl
end Go.Proofs.YteofmaiojepdkaaGreat
namespace Go.Proofs.YteofmaiojepdkaaGreat
open Go Go.RowKit
theorem za {w w' : World} {b : Nat} {o : Obj} (hb : Below w.heap.size w w') (h : w.heap[b]? = some o) : w'.heap[b]? = some o := by
 rw [hb.block b (Array.getElem?_eq_some_iff.1 h).1]; exact h
def rowB (P : Program) (ty : TypeId) (n : Nat) : Bool := (match P.underlying ty with | some (.struct _) | some (.array _ _) => true | _ => false) && (P.info? ty).map (·.size) == some n
theorem wp_of_value {P : Program} {o : Oper} {a : Act} {w w' : World} {v : Value} {K : Act → World → Prop} {Q : Exit → Act → World → Prop} (h : (execOp a.eval o).run P w = .ok (.value v) w') (hk : K (a.put o.dst v) w') : o.wp P a w K Q := by
 unfold Oper.wp
 rw [h]
 exact hk
theorem exec_load_cell {P : Program} {o : Oper} {a : Act} {w : World} (ty : TypeId) (x : Operand) (ho : o.op = .load ty x) (ad : Addr) (hx : a.eval x = .pointer (some ad)) (v : Value) (hc : w.cell? ad = some v) (hagg : ∀ w, (isAgg ty).run P w = .ok false w) :
  (execOp a.eval o).run P w = .ok (.value v) w := by
 unfold execOp
 simp [ho, hx, Instr.loadAt, Instr.sureAddr, loadVar, hagg, hc]
theorem yo {P : Program} {o : Oper} {a : Act} {w : World} (ty : TypeId) (x : Operand) (ho : o.op = .load ty x) (g off : Nat) (hx : a.eval x = .pointer (some ⟨g, off, none⟩)) (cs : Array Value) (t : TypeId) (fr : Nat × Nat) (hg : w.heap[g]? = some (.cells cs t fr)) (v : Value) (hc : cs[off]? = some v) (hagg : ∀ w, (isAgg ty).run P w = .ok false w) :
  (execOp a.eval o).run P w = .ok (.value v) w :=
 exec_load_cell ty x ho _ hx v (by rw [cell_of_row w g off cs t fr hg]; exact hc) hagg
theorem zQ {P : Program} {o : Oper} {a : Act} {w : World} (ty : TypeId) (x : Operand) (ho : o.op = .load ty x) (g off : Nat) (hx : a.eval x = .pointer (some ⟨g, off, none⟩)) (cs : Array Value) (t : TypeId) (fr : Nat × Nat) (hg : w.heap[g]? = some (.cells cs t fr)) (l : List Value) (hl : (cs.extract off (off + l.length)).toList = l) (hr : rowB P ty l.length = true) :
  (execOp a.eval o).run P w = .ok (.value (.agg l.toArray)) w := by
 simp only [rowB, Bool.and_eq_true, beq_iff_eq] at hr
 have hra := World.rangeAt_of_block hg off l.length
 rw [hl] at hra
 cases hu : P.underlying ty with
 | none => rw [hu] at hr; exact absurd hr.1 (by simp)
 | some d =>
  rw [hu] at hr
  unfold execOp
  have hd : d.isRow = true := by
   have := hr.1
   cases d <;> first | rfl | exact absurd this (by simp)
  simp only [ho, hx, Sem.run_bind, run_loadAt_mid w g off ty l d hra hu hd hr.2, Sem.run_pure, Result.andThen_ok]
theorem wp_store_at {P : Program} {o : Oper} {a : Act} {w : World} {K : Act → World → Prop} {Q : Exit → Act → World → Prop} (ty : TypeId) (x y : Operand) (ho : o.op = .store ty x y) (g off : Nat) (hx : a.eval x = .pointer (some ⟨g, off, none⟩)) (v : Value) (hy : a.eval y = v)
  (cur : Array Value) (t : TypeId) (hg : w.heap[g]? = some (.cells cur t (0, 0))) (vs : List Value) (hv : v.cells.toList = vs) (hle : off + vs.length ≤ cur.size) (hi : (P.info? ty).map (·.size) = some vs.length) (h1 : vs.all (·.oneCell') = true)
  (new : Array Value) (hnew : (cur.toList.take off ++ vs ++ cur.toList.drop (off + vs.length)).toArray = new) (h : K (a.put o.dst undef) (w.setRow g new)) : o.wp P a w K Q := by
 have hst := run_storeCells_at (P := P) g off t vs 0 cur w hg (by omega) (fun u hu => List.all_eq_true.1 h1 u hu)
 simp only [Nat.add_zero, hnew] at hst
 have hsv : (storeVar ty ⟨g, off, none⟩ v).run P w = .ok () (w.setRow g new) := by
  cases hq : P.info? ty with
  | none => simp [hq] at hi
  | some i =>
   have hs : vs.length = i.size := by simp [hq] at hi; omega
   have hs' : v.cells.size = i.size := by rw [← hs, ← hv]; simp
   simp [storeVar, sizeOf, typeInfo, hq, hs', hv, hst]
 unfold Oper.wp execOp
 simp only [ho, hx, hy, Instr.storeAt, Instr.sureAddr, Sem.run_bind, Sem.run_pure, Result.andThen_ok, hsv]
 exact h
theorem wpList_store_at {P : Program} {ops : Array Oper} {rest : List Oper} {o : Oper} {a : Act} {w : World} {Q : Exit → Act → World → Prop} (hgd : o.guard = none) (ty : TypeId) (x y : Operand) (ho : o.op = .store ty x y) (g off : Nat) (hx : a.eval x = .pointer (some ⟨g, off, none⟩)) (v : Value) (hy : a.eval y = v)
  (cur : Array Value) (t : TypeId) (hg : w.heap[g]? = some (.cells cur t (0, 0))) (vs : List Value) (hv : v.cells.toList = vs) (hle : Nat.ble (off + vs.length) cur.size = true) (hi : (P.info? ty).map (·.size) = some vs.length) (h1 : vs.all (·.oneCell') = true)
  (new : Array Value) (hnew : (cur.toList.take off ++ vs ++ cur.toList.drop (off + vs.length)).toArray = new) (h : wpList P ops Q rest (a.put o.dst undef) (w.setRow g new)) : wpList P ops Q (o :: rest) a w :=
 wpList_plain hgd fun _ hK => wp_store_at ty x y ho g off hx v hy cur t hg vs hv (Nat.le_of_ble_eq_true hle) hi h1 new hnew (hK _ _ h)
theorem wpList_val {P : Program} {ops : Array Oper} {rest : List Oper} {o : Oper} {a : Act} {w w' : World} {Q : Exit → Act → World → Prop} {v : Value} (hw : Region.wanted o (yielded ops a.tmps) = true) (h : (execOp a.eval o).run P w = .ok (.value v) w') (hk : wpList P ops Q rest (a.put o.dst v) w') : wpList P ops Q (o :: rest) a w := by
 refine wpList_step fun K hK => ?_
 rw [if_pos hw]
 exact wp_of_value h (hK _ _ hk)
end Go.Proofs.YteofmaiojepdkaaGreat
namespace Go.Proofs.YteofmaiojepdkaaGreat
open Go.RowKit
def fmtRows : List (List Int) := [
 [0x00, 0x05, 0, 0, 0, 0], [0x10, 0x13, 2, 0, 0, 0], [0x14, 0x15, 4, 0, 0, 0],
 [0x20, 0x2e, 1, 0, 0, 0], [0x30, 0x3e, 2, 5, 0, 0], [0x40, 0x4e, 2, 6, 0, 0],
 [0x50, 0x53, 1, 5, 0, 0], [0x58, 0x5b, 1, 6, 0, 0], [0x54, 0x57, 2, 6, 0, 0],
 [0x60, 0x6d, 5, 0, 0, 0], [0x70, 0x7d, 6, 0, 0, 0], [0x80, 0x80, 5, 0, 0, 0], [0x81, 0x82, 6, 0, 0, 0],
 [0x83, 0x84, 8, 6, 0, 0], [0x85, 0x85, 2, 9, 6, 7], [0x86, 0x86, 2, 6, 0, 0],
 [0x90, 0x91, 2, 4, 0, 0], [0x92, 0x93, 1, 8, 6, 0], [0x96, 0x96, 3, 6, 7, 0],
 [0xa0, 0xa1, 2, 4, 0, 0], [0xa2, 0xa3, 2, 5, 0, 0]]
def fmtCells : Array Value := (fmtRows.flatMap fun r => r.map vi).toArray
set_option maxRecDepth 100000 in
set_option maxHeartbeats 1000000 in
theorem formats_any (w : World) :
  Calls Tryz.prog 166 #[] w fun e w' => e = .returned (.agg fmtCells) ∧ ∃ o, w' = w.alloc o := by
 go_enter Tryz.func166, Tryz.ntmps166
 go_wp2_with (refine wpList_store_row rfl 233 (.tmp 0) (.tmp 43) rfl w.heap.size fmtCells rfl ?h1 233 _ (heap_alloc_new _ _) ?h2 ?h3 ?h4 ?_; (case h1 => rfl); (case h2 => kernel_rfl); (case h3 => kernel_rfl); (case h4 => kernel_rfl))
 refine bodyPost_ret (results_cell_row (cs := fmtCells) (fr := (0, 0)) rfl _ _ w.heap.size 233 _ rfl (setRow_heap _ _ _ _ _ _ (heap_alloc_new _ _)) (Tryz.underlying233) rfl (by kernel_rfl)) rfl ⟨rfl, _, World.setRow_alloc_new _ _ _ _⟩
def fRow (k : Nat) : List Int := fmtRows.getD k []
def fAt (k j : Nat) : Int := (fRow k).getD j 0
def fCells (k : Nat) : Array Value := #[vi (fAt k 0), vi (fAt k 1), vi (fAt k 2), vi (fAt k 3), vi (fAt k 4), vi (fAt k 5)]
theorem index_fmt (k : Nat) (hk : k < 21) (w : World) : (Instr.index 233 (.agg fmtCells) (.int .i64 k)).run Tryz.prog w = .ok (.agg (fCells k)) w := by
 have h : k = 0 ∨ k = 1 ∨ k = 2 ∨ k = 3 ∨ k = 4 ∨ k = 5 ∨ k = 6 ∨ k = 7 ∨ k = 8 ∨ k = 9 ∨ k = 10 ∨ k = 11 ∨ k = 12 ∨ k = 13 ∨ k = 14 ∨ k = 15 ∨ k = 16 ∨ k = 17 ∨ k = 18 ∨ k = 19 ∨ k = 20 := by omega
 rcases h with rfl | rfl | rfl | rfl | rfl | rfl | rfl | rfl | rfl | rfl | rfl | rfl | rfl | rfl | rfl | rfl | rfl | rfl | rfl | rfl | rfl <;> (show _ = _; kernel_rfl)
end Go.Proofs.YteofmaiojepdkaaGreat
namespace Go.Proofs.YteofmaiojepdkaaGreat
open Go.RowKit
def fFrom (op : Int) : Nat → Nat → Option Nat
 | _, 0 => none
 | k, n + 1 => if fAt k 0 ≤ op ∧ op ≤ fAt k 1 then some k else fFrom op (k + 1) n
def fOf (op : Int) : Option Nat := fFrom op 0 21
def fld (op : Int) (j : Nat) : Int := match fOf op with
 | some k => fAt k (j + 2)
 | none => 0
theorem zf {op : Int} {k : Nat} (h : fOf op = some k) (j : Nat) : fld op j = fAt k (j + 2) := by unfold fld; rw [h]
theorem fld_none {op : Int} (h : fOf op = none) (j : Nat) : fld op j = 0 := by unfold fld; rw [h]
set_option maxRecDepth 100000 in
set_option maxHeartbeats 1000000 in
theorem xm (op : Int) (w : World) :
  Calls Tryz.prog 135 #[.int .i64 op] w fun e w' => e = .returned (.tuple #[.agg #[vi (fld op 0), vi (fld op 1), vi (fld op 2), vi (fld op 3)], .bool (fOf op).isSome]) ∧ Below w.heap.size w w' := by
 go_enter Tryz.func135, Tryz.ntmps135
 go_wp2_with (go_at_call 166; refine (formats_any _).mono ?_; rintro e w' ⟨rfl, o, rfl⟩)
 go_loopg [5, 7] 22 (fun g p i wr => ∃ k : Nat, k + g = 22 ∧ k ≤ 21 ∧ i = .int .i64 k ∧ fFrom op 0 21 = fFrom op k (21 - k) ∧ Below (w.heap.size + 1) (w.alloc (Obj.cells #[Value.int IntKind.i64 0, Value.int IntKind.i64 0, Value.int IntKind.i64 0, Value.int IntKind.i64 0] 23)) wr)
 case atStart => exact ⟨0, rfl, by omega, rfl, rfl, (Below.refl _ _).alloc (by simp) _⟩
 case round =>
  obtain ⟨k, hg, hk, rfl, hF, hb⟩ := hrel
  have HF := zh hF
  clear hF
  have hix := index_fmt k
  have hB := hb.block w.heap.size (by omega)
  rw [heap_alloc_new] at hB
  have hBs := lt_of_below_alloc hb
  by_cases hlt : k < 21
  ·have hix := hix hlt
   go_wp2_with (first | (refine wpList_store_row rfl 232 (.tmp 5) (.tmp 9) rfl wr.heap.size (fCells k) rfl rfl 232 _ (heap_alloc_new _ _) ?_ ?_ ?_ ?_; kernel_rfl; rfl; kernel_rfl; rw [World.setRow_alloc_new]; unfold fCells vi) | (refine wpList_store_row rfl 23 (.tmp 2) (.tmp 21) rfl w.heap.size #[vi (fAt k 2), vi (fAt k 3), vi (fAt k 4), vi (fAt k 5)] rfl rfl 23 _ ((heap_alloc_old _ _ hBs).trans hB) ?_ ?_ ?_ ?_; kernel_rfl; rfl; kernel_rfl))
   ·have e : fFrom op k (21 - k) = some k := by
     rw [show 21 - k = (20 - k) + 1 by omega, fFrom, if_pos ⟨by assumption, by assumption⟩]
    refine bodyPost_ret (v := .tuple #[.agg #[vi (fld op 0), vi (fld op 1), vi (fld op 2), vi (fld op 3)], .bool (fOf op).isSome]) ?_ rfl ⟨rfl, ?_⟩
    ·have hh : fOf op = some k := HF.out.trans e
     rw [zf hh, zf hh, zf hh, zf hh, hh]
     refine zd Tryz.results135 _ _ w.heap.size 23 _ (0, 0) _ ?_ (setRow_heap _ _ _ _ _ _ ((heap_alloc_old _ _ hBs).trans hB)) Tryz.underlying23 rfl (by kernel_rfl); rfl
    ·exact below_setRow ((((Below.refl _ _).alloc (zn _) _).trans (hb.mono (by omega))).alloc (by omega) _) (zn _) _
   all_goals
    have hns : fFrom op k (21 - k) = fFrom op (k + 1) (21 - (k + 1)) := by
     rw [show 21 - k = (20 - k) + 1 by omega, fFrom, if_neg (by omega), show 20 - k = 21 - (k + 1) by omega]
    go_roundg (gk - 1)
    case measure => omega
    case rel => exact ⟨k + 1, by omega, by omega, by go_num, HF.out.trans hns, hb.alloc (by omega) _⟩
  ·go_wp2_with (refine wpList_store_row rfl 23 (.tmp 2) (.tmp 23) rfl w.heap.size #[vi 0, vi 0, vi 0, vi 0] rfl rfl 23 _ hB ?_ ?_ ?_ ?_; kernel_rfl; rfl; kernel_rfl)
   have hk21 : k = 21 := by omega
   subst hk21
   have hh : fOf op = none := HF.out
   refine bodyPost_ret (v := .tuple #[.agg #[vi (fld op 0), vi (fld op 1), vi (fld op 2), vi (fld op 3)], .bool (fOf op).isSome]) ?_ rfl ⟨rfl, ?_⟩
   ·rw [fld_none hh, fld_none hh, fld_none hh, fld_none hh, hh]
    refine zd Tryz.results135 _ _ w.heap.size 23 _ (0, 0) _ ?_ (setRow_heap _ _ _ _ _ _ hB) Tryz.underlying23 rfl (by kernel_rfl); rfl
   ·exact below_setRow (((Below.refl _ _).alloc (zn _) _).trans (hb.mono (by omega))) (zn _) _
end Go.Proofs.YteofmaiojepdkaaGreat
namespace Go.Proofs.YteofmaiojepdkaaGreat
open Go.RowKit
theorem index4_0 (a b c d : Value) (w : World) : (Instr.index 23 (.agg #[a, b, c, d]) (.int .i64 0)).run Tryz.prog w = .ok a w := by kernel_rfl
theorem index4_1 (a b c d : Value) (w : World) : (Instr.index 23 (.agg #[a, b, c, d]) (.int .i64 1)).run Tryz.prog w = .ok b w := by kernel_rfl
theorem index4_2 (a b c d : Value) (w : World) : (Instr.index 23 (.agg #[a, b, c, d]) (.int .i64 2)).run Tryz.prog w = .ok c w := by kernel_rfl
theorem index4_3 (a b c d : Value) (w : World) : (Instr.index 23 (.agg #[a, b, c, d]) (.int .i64 3)).run Tryz.prog w = .ok d w := by kernel_rfl
def xO (n : Int) : Int := if n = 0 then 0 else if n = 6 ∨ n = 7 then 2 else 1
theorem xN (n : Int) : 0 ≤ xO n ∧ xO n ≤ 2 := by unfold xO; split; omega; split <;> omega
set_option maxHeartbeats 400000 in
theorem width_any (n : Int) (w : World) :
  Calls Tryz.prog 165 #[.int .i64 n] w fun e w' => e = .returned (.int .i64 (xO n)) ∧ w = w' := by
 go_enter Tryz.func165, Tryz.ntmps165
 go_wp2
 all_goals (go_ret; exact ⟨by congr 2; unfold xO; simp_all, rfl⟩)
def zH (n : Int) : Int := if n < 128 then n else n + 65280
set_option maxHeartbeats 400000 in
theorem extend_any (n : Int) (h0 : 0 ≤ n) (h1 : n < 256) (w : World) :
  Calls Tryz.prog 168 #[.int .u8 n] w fun e w' => e = .returned (.int .u16 (zH n)) ∧ w = w' := by
 go_enter Tryz.func168, Tryz.ntmps168
 go_wp2
 go_ret
 refine ⟨?_, rfl⟩
 show Ending.returned (.int .u16 _) = _
 congr 2
 unfold zH IntKind.wrap
 simp [IntKind.bits, IntKind.signed]
 split <;> split <;> omega
def zx (op : Int) : Int := match fOf op with
 | none => 0
 | some k => 1 + xO (fAt k 2) + xO (fAt k 3) + xO (fAt k 4) + xO (fAt k 5)
def accS (k : Nat) : Nat → Int
 | 0 => 1
 | 1 => 1 + xO (fAt k 2)
 | 2 => 1 + xO (fAt k 2) + xO (fAt k 3)
 | 3 => 1 + xO (fAt k 2) + xO (fAt k 3) + xO (fAt k 4)
 | _ => 1 + xO (fAt k 2) + xO (fAt k 3) + xO (fAt k 4) + xO (fAt k 5)
set_option maxHeartbeats 1000000 in
theorem size_any (n : Int) (h0 : 0 ≤ n) (h1 : n < 256) (w : World) :
  Calls Tryz.prog 133 #[.int .u8 n] w fun e w' => e = .returned (.int .i64 (zx n)) ∧ Below w.heap.size w w' := by
 cases hf : fOf n with
 | none =>
  have HF := zh hf
  clear hf
  go_enter Tryz.func133, Tryz.ntmps133
  go_wp2_with (first | (refine stN ?_) | (go_at_call 135; refine (xm _ _).mono ?_; rintro e w1 ⟨rfl, hb1⟩; rw [HF.out, Option.isSome_none]))
  go_ret
  exact ⟨by unfold zx; rw [HF.out]; rfl, hb1.alloc hb1.size _⟩
 | some k =>
  have HF := zh hf
  have HS := zh hf
  have b0 := xN (fAt k 2)
  have b1 := xN (fAt k 3)
  have b2 := xN (fAt k 4)
  have b3 := xN (fAt k 5)
  clear hf
  have i0 := index4_0
  have i1 := index4_1
  have i2 := index4_2
  have i3 := index4_3
  go_enter Tryz.func133, Tryz.ntmps133
  go_wp2_with (first | (refine stN ?_) | (go_at_call 135; refine (xm _ _).mono ?_; rintro e w1 ⟨rfl, hb1⟩; rw [HF.out, Option.isSome_some, zf HF.out, zf HF.out, zf HF.out, zf HF.out]))
  clear HF
  go_loop [5, 17] (fun acc i => ∃ j : Nat, j ≤ 4 ∧ i = .int .i64 j ∧ acc = .int .i64 (accS k j)) (fun _ i => 4 - (intOf i).toNat)
  case atStart => exact ⟨0, by omega, rfl, rfl⟩
  case round =>
   obtain ⟨j, hj, rfl, rfl⟩ := hrel
   have hj5 : j = 0 ∨ j = 1 ∨ j = 2 ∨ j = 3 ∨ j = 4 := by omega
   rcases hj5 with rfl | rfl | rfl | rfl | rfl
   all_goals
    simp only [accS]
    go_wp2_with (go_at_call 165; refine (width_any _ _).mono ?_; rintro e w2 ⟨rfl, rfl⟩)
   ·go_round
    case rel => exact ⟨1, by omega, by go_num, rfl⟩
    case measure => simp [intOf]
   ·go_round
    case rel => exact ⟨2, by omega, by go_num, rfl⟩
    case measure => simp [intOf]
   ·go_round
    case rel => exact ⟨3, by omega, by go_num, rfl⟩
    case measure => simp [intOf]
   ·go_round
    case rel => exact ⟨4, by omega, by go_num, rfl⟩
    case measure => simp [intOf]
   ·go_ret
    exact ⟨by unfold zx; rw [HS.out]; rfl, hb1.alloc hb1.size _⟩
end Go.Proofs.YteofmaiojepdkaaGreat
