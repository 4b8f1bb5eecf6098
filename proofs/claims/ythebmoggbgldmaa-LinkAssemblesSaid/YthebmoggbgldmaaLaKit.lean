/- Laws for slices of bytes that a call owns: append of one owned row to another, the conversion to a string; loads of whole structs out of known blocks. No condition beyond what each states. -/
import Derived.Test.YthebmoggbgldmaaRows
import Derived.WalkKit
import Derived.WalkSpells
import Derived.WalkLawsBesides
import Derived.Deep.LoopGhost
import Derived.Deep.WholeRow
import Derived.Deep.Cut
import Derived.Deep.CutBlock
import Derived.Lib.Hide
import Derived.Laws.CopyOwn
import Derived.Laws.AppendOwnNone
import Derived.Maps.AppendAt
import Derived.Deep.RegionHeld3
set_option linter.all false
namespace Go.Proofs.Ythebmoggbgldmaa
open Go.RowKit
theorem zA {α : Type} {xs : List α} {i : Nat} (h : i < xs.toArray.size) : xs.toArray[i] = xs[i]'(by simpa using h) := List.getElem_toArray h
theorem zB {α : Type} (a : α) (l : List α) (i : Nat) (h : i + 1 < (a :: l).length) : (a :: l)[i + 1] = l[i]'(by simpa using h) := List.getElem_cons_succ a l i h
theorem zC {α : Type} (a : α) (l : List α) (h : 0 < (a :: l).length) : (a :: l)[0] = a := List.getElem_cons_zero a l h
theorem zD {α : Type} (l : List α) (i : Nat) (a : α) : l.toArray.setIfInBounds i a = (l.set i a).toArray := List.setIfInBounds_toArray l i a
theorem zE {α : Type} {x : α} {xs : List α} {a : α} : (x :: xs).set 0 a = a :: xs := List.set_cons_zero
theorem zF {α : Type} {x : α} {xs : List α} {i : Nat} {a : α} : (x :: xs).set (i + 1) a = x :: xs.set i a := List.set_cons_succ
theorem zh {p : Prop} (h : p) : Go.RowKit.Hid p := Go.Lib.hid h
theorem zn (n : Nat) : n ≤ n := Nat.le_refl n
def vi (n : Int) : Value := .int .i64 n
def vw (n : Int) : Value := .int .u16 n
def vb (n : Int) : Value := .int .u8 n
theorem zI {P : Program} {fn : Func} {p u : Tmp} {ty : TypeId} (h : fn.results = #[.cell p ty, .tmp u]) (tmps : Array Value) (w : World) (g : Nat) (t : TypeId) (cs : Array Value) (fr : Nat × Nat) (d : TypeDesc)
  (hp : tmps.getD p undef = .pointer (some ⟨g, 0, none⟩)) (hg : w.heap[g]? = some (.cells cs t fr))
  (hu : P.underlying ty = some d) (hd : (match d with | .struct _ | .array _ _ => true | _ => false) = true) (hi : (P.info? ty).map (·.size) = some cs.size) :
  (results fn tmps).run P w = .ok (.tuple #[.agg cs, tmps.getD u undef]) w := by
 rw [results_cell_tmp h, hp]
 simp [asAddr, Result.andThen, run_loadVar_row w g t ty cs fr d hg hu hd hi]
theorem lt_of_below_alloc {w wr : World} {o : Obj} {B : Nat} (hb : Below B (w.alloc o) wr) : w.heap.size < wr.heap.size := by
 have := hb.size; simp at this; omega
structure Ins where
 op : Int
 d : Int
 s : Int
 imm : Int
 aux : Int
 bank : Int
 size : Int
def zX (n : Int) : Prop := -9223372036854775808 ≤ n ∧ n ≤ 9223372036854775807
structure Ins.Ok (i : Ins) : Prop where
 op : zX i.op
 d : zX i.d
 s : zX i.s
 imm : 0 ≤ i.imm ∧ i.imm < 65536
 aux : 0 ≤ i.aux ∧ i.aux < 65536
 bank : zX i.bank
 size : zX i.size
end Go.Proofs.Ythebmoggbgldmaa
namespace Go.Proofs.Ythebmoggbgldmaa
open Go.RowKit
def bv (l : List Int) : List Value := l.map (Value.int .u8)
def zO (l : List Int) : ByteArray := ⟨(l.map fun n => UInt8.ofNat n.toNat).toArray⟩
theorem yo (l : List Int) : (zO l).size = l.length := by simp [zO, ByteArray.size]
theorem foldl_push (l : List Int) : ∀ s : ByteArray, (l.foldl (fun r n => r.push (UInt8.ofNat n.toNat)) s) = ⟨s.data ++ (l.map fun n => UInt8.ofNat n.toNat).toArray⟩ := by
 induction l with
 | nil => intro s; simp
 | cons n l ih =>
  intro s
  rw [List.foldl_cons, ih]
  simp [ByteArray.push]
section
variable {P : Program}
theorem yk (w : World) (src dst e : TypeId) (hs : P.underlying src = some (.slice e)) (he : P.underlying e = some (.int .u8)) (hd : P.underlying dst = some .string)
  (v : Value) (n base : Nat) (l : List Int) (h : w.ownsRow base e 1 v n (bv l)) : (convert src dst v).run P w = .ok (.string (zO l)) w := by
 obtain ⟨hl, h⟩ := h
 rcases h with ⟨rfl, hn⟩ | ⟨g, cap, cur, rfl, hb, hg, hnc, hcm, hcs, htake⟩
 ·rw [run_convert_bytes_string w src dst e _ _ _ hs he hd]
  have : l = [] := by
   have : (bv l).length = 0 := by rw [hl, hn]
   simpa [bv] using this
  subst this
  rfl
 ·rw [run_convert_bytes_string w src dst e _ _ _ hs he hd]
  have hll : l.length = n := by simpa [bv] using hl
  have hload : (loadCells ⟨g, 0, none⟩ n).run P w = .ok (l.map (Value.int .u8)).toArray w := by
   have := run_loadCells_list (P := P) w ⟨g, 0, none⟩ (l.map (Value.int .u8)) (fun j u hu => by
    have hadd : (⟨g, 0, none⟩ : Addr).add j = ⟨g, j, none⟩ := by unfold Addr.add; split <;> simp_all
    rw [hadd, cell_of_row w g j cur e _ hg]
    have hj : j < n := by
     have := (List.getElem?_eq_some_iff.1 hu).1
     simpa [hll] using this
    have h1 : (cur.toList.take (n * 1))[j]? = cur.toList[j]? := by rw [List.getElem?_take]; simp [hj]
    rw [htake] at h1
    rw [← Array.getElem?_toList, ← h1]
    exact hu)
   simpa [hll] using this
  rw [run_bytesToString w ⟨g, 0, none⟩ n cap l hload, foldl_push]
  simp [zO, ByteArray.empty, ByteArray.emptyWithCapacity]
  try rfl
theorem yl {w : World} {ops : Array Oper} {rest : List Oper} {o : Oper} {a : Act} {Q : Exit → Act → World → Prop} (hgd : o.guard = none) (s x : Operand) (t : TypeId)
  (ho : o.op = .call { callee := .builtin .append, args := #[s, x], argTypes := #[t, t] })
  (base : Nat) (e : TypeId) (i : TypeInfo) (z : Value) (bytes : Nat) (ht : P.underlying t = some (.slice e)) (hi : P.info? e = some i) (hz : i.zero = some z)
  (hsize : i.size = 1) (hby : i.bytes = bytes) (hzs : z.cells.size = 1)
  (v : Value) (n : Nat) (xs : List Value) (hs : a.eval s = v) (hown : w.ownsRow base e 1 v n xs)
  (y : Value) (m bx : Nat) (news : List Value) (hx : a.eval x = y) (hownx : w.ownsRow bx e 1 y m news) (h1 : ∀ u ∈ news, u.oneCell' = true)
  (h63 : n + m ≤ maxLen) (hbytes : (n + m) * bytes ≤ 140737488355328) (hbase : base ≤ w.heap.size)
  (h : ∀ v' w', w'.ownsRow base e 1 v' (n + m) (xs ++ news) → w.grownBy w' v.ownBlock → wpList P ops Q rest (a.put o.dst v') w') : wpList P ops Q (o :: rest) a w := by
 obtain ⟨hl, hc⟩ := hownx
 rcases hc with ⟨rfl, hn⟩ | ⟨g, cap, cur, rfl, hb, hg, hnc, hcm, hcs, htake⟩
 ·subst hn
  have : news = [] := List.eq_nil_of_length_eq_zero (by simpa using hl)
  subst this
  refine wpList_append_own_none hgd s x t ho base e i 1 ht hi v n xs hs hown hx (h v w ?_ ?_)
  ·simpa using hown
  ·exact ⟨rfl, rfl, rfl, zn _, fun _ _ _ => rfl⟩
 ·refine wpList_append_own _ hgd s x t ho base e i z 1 bytes ht hi hz hsize hby hzs (by decide) v n xs hs hown ⟨g, 0, none⟩ m cap news hx (by simpa using hl) (fun j u hu => ?_) h1 h63 hbytes hbase (fun v' w' h2 h3 _ => h v' w' h2 h3)
  have hadd : (⟨g, 0, none⟩ : Addr).add j = ⟨g, j, none⟩ := by unfold Addr.add; split <;> simp_all
  rw [hadd, cell_of_row w g j cur e _ hg]
  have hj : j < m := by
   have := (List.getElem?_eq_some_iff.1 hu).1
   omega
  have h1 : (cur.toList.take (m * 1))[j]? = cur.toList[j]? := by rw [List.getElem?_take]; simp [hj]
  rw [htake] at h1
  rw [← Array.getElem?_toList, ← h1]
  exact hu
theorem exec_load_row {o : Oper} {a : Act} {w : World} (ty : TypeId) (x : Operand) (ho : o.op = .load ty x)
  (g : Nat) (hx : a.eval x = .pointer (some ⟨g, 0, none⟩)) (t : TypeId) (cs : Array Value) (fr : Nat × Nat) (d : TypeDesc) (hg : w.heap[g]? = some (.cells cs t fr))
  (hu : P.underlying ty = some d) (hd : (match d with | .struct _ | .array _ _ => true | _ => false) = true) (hi : (P.info? ty).map (·.size) = some cs.size) :
  (execOp a.eval o).run P w = .ok (.value (.agg cs)) w := by
 unfold execOp
 simp only [ho, hx, Instr.loadAt, Instr.sureAddr, Sem.run_bind, Sem.run_pure, Result.andThen_ok, run_loadVar_row w g t ty cs fr d hg hu hd hi]
theorem exec_convert {o : Oper} {a : Act} {w : World} (src dst : TypeId) (x : Operand) (ho : o.op = .convert src dst x) (v r : Value) (hx : a.eval x = v) (hr : (convert src dst v).run P w = .ok r w) :
  (execOp a.eval o).run P w = .ok (.value r) w := by
 unfold execOp
 simp only [ho, hx, Sem.run_bind, hr, Sem.run_pure, Result.andThen_ok]
end
theorem bv_one (l : List Int) : ∀ u ∈ bv l, u.oneCell' = true := by
 intro u hu
 obtain ⟨n, _, rfl⟩ := List.mem_map.1 hu
 rfl
end Go.Proofs.Ythebmoggbgldmaa
