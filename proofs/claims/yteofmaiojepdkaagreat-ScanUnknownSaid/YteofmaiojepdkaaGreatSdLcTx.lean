/- Law 05: what ScanUnknown needs beside its walk: numbers, the image with one byte put anew in memory, the issues of a listing. No condition beyond what each states. -/
import Derived.Test.YteofmaiojepdkaaGreatSdRkA
import Derived.Test.YteofmaiojepdkaaGreatSdSpGd
import Derived.Test.YteofmaiojepdkaaGreatSdRvC
set_option linter.all false
namespace Go.Proofs.YteofmaiojepdkaaGreat
open Go.ChangeShapes Go.WideShapes Go.ChangeAt Go.RowKit Go.Deep
set_option maxRecDepth 100000
theorem arr2 {cs : Array Value} (h : cs.size = 2) : ∃ a b, cs = #[a, b] := by
 obtain ⟨l⟩ := cs
 match l, h with
 | [a, b], _ => exact ⟨a, b, rfl⟩
section
variable {w : World} {r : Reach} {base : Nat} {v : Value}
theorem arg_c2N (h : Value.okWide Tryz.prog w r base 80 v) : ∃ N : Nat → Int, (∀ k, yX (N k)) ∧ v = .agg #[.int .i64 (N 0), .int .i64 (N 1)] := by
 obtain ⟨cs, rfl, hsz, hall⟩ := value_flat (ts := [3, 3]) (by kernel_rfl) (by kernel_rfl) (by kernel_rfl) h
 obtain ⟨a, b, rfl⟩ := arr2 hsz
 obtain ⟨a, rfl, ha⟩ := cell_int Tryz.underlying3 (hall 0 _ _ rfl rfl)
 obtain ⟨b, rfl, hb⟩ := cell_int Tryz.underlying3 (hall 1 _ _ rfl rfl)
 refine ⟨fun k => match k with | 0 => a | 1 => b | _ => 0, fun k => ?_, rfl⟩
 match k with
 | 0 => exact has_i64 ha
 | 1 => exact has_i64 hb
 | _ + 2 => exact ⟨show (-9223372036854775808 : Int) ≤ 0 by decide, show (0 : Int) ≤ 9223372036854775807 by decide⟩
end
end Go.Proofs.YteofmaiojepdkaaGreat
namespace Go.Proofs.YteofmaiojepdkaaGreat
def hitP (b o : Nat) (p : zc) (n : Int) : Prop := p.bank = b ∧ zJ p ≤ o ∧ (o : Int) < zJ p + n
structure OneD (I J : zp) (b o : Nat) : Prop where
 n : J.banks.length = I.banks.length
 en : J.entry = I.entry
 ve : J.vector = I.vector
 da : J.data = I.data
 sz : ∀ p, (xp J p).size = (xp I p).size
 ex : ∀ p n, inI I p = true → ¬ hitP b o p n → (xp J p).extract (zJ p) (zJ p + n.toNat) = (xp I p).extract (zJ p) (zJ p + n.toNat)
section
variable {I J : zp} {b o : Nat} (d : OneD I J b o)
include d
theorem OneD.inI (p : zc) : inI J p = inI I p := by unfold Go.Proofs.YteofmaiojepdkaaGreat.inI; rw [d.n]
theorem OneD.code {p : zc} {n : Int} (h : ¬ hitP b o p n) : zM J p n = zM I p n := by
 unfold zM
 rw [d.inI]
 by_cases hc : Go.Proofs.YteofmaiojepdkaaGreat.inI I p = true ∧ 1 ≤ n
 ·rw [if_pos hc, if_pos hc, d.ex p n hc.1 h]
 ·rw [if_neg hc, if_neg hc]
theorem OneD.size (p : zc) (n : Int) : (zM J p n).size = (zM I p n).size := by
 unfold zM
 rw [d.inI]
 split
 ·rw [ByteArray.size_extract, ByteArray.size_extract, d.sz]
 ·rfl
theorem OneD.at1 {p : zc} (h1 : ¬ hitP b o p 1) (h2 : ¬ hitP b o p (zI (byt (zM I p 1) 0))) : atI J p = atI I p := by
 unfold atI
 rw [d.code h1, d.code h2]
theorem OneD.atNot {p : zc} (h : ¬ (Go.Proofs.YteofmaiojepdkaaGreat.inI I p = true ∧ hitP b o p 7)) : atI J p = atI I p := by
 by_cases hi : Go.Proofs.YteofmaiojepdkaaGreat.inI I p = true
 ·have hs : zI (byt (zM I p 1) 0) ≤ 7 := by rw [size_eq]; exact (rsizeS_bd _).2
  have h7 : ¬ hitP b o p 7 := fun h' => h ⟨hi, h'⟩
  unfold hitP at h7
  exact d.at1 (by unfold hitP; omega) (by unfold hitP; omega)
 ·have hf : Go.Proofs.YteofmaiojepdkaaGreat.inI I p = false := by simpa using hi
  rw [at_none hf, at_none (by rw [d.inI]; exact hf)]
theorem OneD.atOk {p : zc} (hok : okI I p) (h : covP I b o p = false) : atI J p = atI I p := by
 have ho := ok_at hok
 have hb := ins_bd hok
 have hv := yM _ hb.1 hb.2.1
 have hz := rsizeS_bd (atI I p).1.op
 have hs : zI (byt (zM I p 1) 0) = (szI I p : Int) := by
  have h1 : byt (zM I p 1) 0 = byt (xp I p) (zJ p) := by
   unfold zM
   rw [if_pos ⟨ho.ii, by omega⟩]
   exact byt_extr _ _ _ 0 (by decide)
  rw [h1, ← ok_op hok, size_eq]
  unfold szI
  omega
 have h1 := ho.sz1
 unfold covP at h
 have hn : ¬ hitP b o p (szI I p) := fun ⟨h1, h2, h3⟩ => by
  rw [decide_eq_true h1, decide_eq_true h2, decide_eq_true (show o < zJ p + szI I p by omega)] at h
  cases h
 rw [hs] at h1
 refine d.at1 ?_ (by rw [hs]; exact hn)
 unfold hitP at hn ⊢
 omega
theorem OneD.ent {p : zc} {f : zN} {a : Int} (h : ∀ q ∈ (jf I p f a).tb, ¬ (q.bank = b ∧ zJ q = o)) : jf J p f a = jf I p f a := by
 unfold jf at h ⊢
 split
 ·rename_i lo hi e1 e2
  rw [d.size, d.size]
  by_cases hc : (zM I lo 1).size = 0 ∨ (zM I hi 1).size = 0
  ·rw [if_pos hc, if_pos hc]
  ·rw [if_neg hc, if_neg hc]
   rw [e1, e2] at h
   dsimp only at h
   rw [if_neg hc, toF_tb] at h
   have hl := h lo (by simp)
   have hh := h hi (by simp)
   rw [d.code (p := lo) (n := 1) (by unfold hitP; omega), d.code (p := hi) (n := 1) (by unfold hitP; omega)]
 ·rfl
theorem OneD.tab {p : zc} {f : zN} {x : Ins} : ∀ k, (∀ q ∈ (tabF I x p f k).tb, ¬ (q.bank = b ∧ zJ q = o)) → tabF J x p f k = tabF I x p f k
 | 0, _ => rfl
 | k + 1, h => by
  have hm : ∀ (g : zN) (a : Int), ∀ q ∈ g.tb, q ∈ (jf I p g a).tb := fun g a q hq => by
   unfold jf
   split
   ·split
    ·exact hq
    ·rw [toF_tb]; exact List.mem_append_left _ hq
   ·exact hq
  show jf J p (tabF J x p f k) _ = jf I p (tabF I x p f k) _
  rw [OneD.tab k (fun q hq => h q (hm _ _ q hq))]
  exact d.ent h
theorem OneD.fl {p : zc} (ha : atI J p = atI I p) (h : ∀ q ∈ (fl I p).tb, ¬ (q.bank = b ∧ zJ q = o)) : fl J p = fl I p := by
 unfold Go.Proofs.YteofmaiojepdkaaGreat.fl at h ⊢
 rw [ha]
 unfold yP at h ⊢
 split
 ·rfl
 ·rename_i h1
  rw [if_neg h1] at h
  split
  ·rfl
  ·rename_i h2
   rw [if_neg h2] at h
   split
   ·rename_i h3
    rw [if_pos h3] at h
    exact d.tab _ h
   ·rfl
end
section
variable {I J : zp} {e : zc}
theorem rch_agree (h : ∀ p, Rch I e p → atI J p = atI I p ∧ (okI I p → fl J p = fl I p)) (p : zc) : Rch J e p ↔ Rch I e p := by
 constructor
 ·intro hp
  induction hp with
  | start => exact .start
  | @step p q h1 h2 h3 ih =>
   have h4 := h _ ih
   have h5 : okI I p := by unfold okI at h2 ⊢; rw [← h4.1]; exact h2
   rw [h4.2 h5] at h3
   exact .step ih h5 h3
 ·intro hp
  induction hp with
  | start => exact .start
  | step h1 h2 h3 ih =>
   have h4 := h _ h1
   refine .step ih ?_ ?_
   ·unfold okI at h2 ⊢
    rw [h4.1]
    exact h2
   ·rw [h4.2 h2]
    exact h3
theorem thunk_agree (h : atI J e = atI I e) : yc J e ↔ yc I e := by unfold yc okI; rw [h]
theorem ye.agree {r : yN} (hr : ye I e r) (h0 : atI J e = atI I e) (h : ¬ yc I e → ∀ p, Rch I e p → atI J p = atI I p ∧ (okI I p → fl J p = fl I p)) : ye J e r := by
 have ht := thunk_agree h0
 refine ⟨hr.en, ?_, fun hj => ?_, fun hj => hr.to0 (fun hi => hj (ht.2 hi)), hr.sc, hr.sl, hr.si, fun hj p => ?_, fun hj q => ?_, fun hj x => ?_⟩
 ·rw [hr.th]
  exact decide_eq_decide.2 ht.symm
 ·rw [h0]
  exact hr.thk (ht.1 hj)
 ·have hi : ¬ yc I e := fun hi => hj (ht.2 hi)
  rw [hr.mc hi p, rch_agree (h hi) p]
  constructor
  ·rintro ⟨h1, h2⟩; exact ⟨h1, by unfold okI at h2 ⊢; rw [(h hi p h1).1]; exact h2⟩
  ·rintro ⟨h1, h2⟩; exact ⟨h1, by unfold okI at h2 ⊢; rw [(h hi p h1).1] at h2; exact h2⟩
 ·have hi : ¬ yc I e := fun hi => hj (ht.2 hi)
  rw [hr.ml hi q]
  constructor
  ·rintro ⟨p, h1, h2, h3⟩
   have h4 := h hi p h1
   exact ⟨p, (rch_agree (h hi) p).2 h1, by unfold okI at h2 ⊢; rw [h4.1]; exact h2, by rw [h4.2 h2]; exact h3⟩
  ·rintro ⟨p, h1, h2, h3⟩
   have h1 := (rch_agree (h hi) p).1 h1
   have h4 := h hi p h1
   have h2 : okI I p := by unfold okI at h2 ⊢; rw [h4.1] at h2; exact h2
   rw [h4.2 h2] at h3
   exact ⟨p, h1, h2, h3⟩
 ·have hi : ¬ yc I e := fun hi => hj (ht.2 hi)
  rw [hr.mi hi x, rch_agree (h hi) x.at_]
  have key : Rch I e x.at_ → (okI J x.at_ ↔ okI I x.at_) := fun h1 => by unfold okI; rw [(h hi _ h1).1]
  constructor
  ·rintro ⟨h1, ⟨h2, h3⟩ | ⟨h2, h3⟩⟩
   ·exact ⟨h1, .inl ⟨fun h4 => h2 ((key h1).1 h4), by rw [(h hi _ h1).1]; exact h3⟩⟩
   ·exact ⟨h1, .inr ⟨(key h1).2 h2, by rw [(h hi _ h1).2 h2]; exact h3⟩⟩
  ·rintro ⟨h1, ⟨h2, h3⟩ | ⟨h2, h3⟩⟩
   ·exact ⟨h1, .inl ⟨fun h4 => h2 ((key h1).2 h4), by rw [(h hi _ h1).1] at h3; exact h3⟩⟩
   ·exact ⟨h1, .inr ⟨(key h1).1 h2, by rw [(h hi _ h1).2 ((key h1).1 h2)] at h3; exact h3⟩⟩
end
section
variable {I J : zp} {b o : Nat} (d : OneD I J b o)
include d
theorem OneD.lst (hI : I.Ok) {rs : List yN} {its : List zc} (hr : yT I [] (some rs)) (hi : IsItems rs its) (hok : ∀ p ∈ its, okI I p) (hl : its.length ≤ 20000) (hc : yZ I its b o = 0) (ht : inTab I its b o = false)
  (hn : ∀ r ∈ rs, ∀ x ∈ r.iss, ¬ (Go.Proofs.YteofmaiojepdkaaGreat.inI I x.at_ = true ∧ hitP b o x.at_ 7)) : x7 J [] (fullL I rs its) := by
 have hcv : ∀ p ∈ its, covP I b o p = false := fun p hp => by
  have h1 := covN_pos.1 hc
  rw [List.any_eq_false] at h1
  simpa using h1 p hp
 have htb : ∀ p ∈ its, ∀ q ∈ (Go.Proofs.YteofmaiojepdkaaGreat.fl I p).tb, ¬ (q.bank = b ∧ zJ q = o) := fun p hp q hq => by
  unfold inTab at ht
  rw [List.any_eq_false] at ht
  have h1 := ht p hp
  simp only [Bool.not_eq_true, List.any_eq_false] at h1
  have h2 := h1 q hq
  simpa using h2
 have hit : ∀ p ∈ its, atI J p = atI I p ∧ Go.Proofs.YteofmaiojepdkaaGreat.fl J p = Go.Proofs.YteofmaiojepdkaaGreat.fl I p := fun p hp => by
  have h1 := d.atOk (hok p hp) (hcv p hp)
  exact ⟨h1, d.fl h1 (htb p hp)⟩
 have hag : ∀ r ∈ rs, ¬ yc I r.entry → ∀ p, Rch I r.entry p → atI J p = atI I p ∧ (okI I p → Go.Proofs.YteofmaiojepdkaaGreat.fl J p = Go.Proofs.YteofmaiojepdkaaGreat.fl I p) := fun r hrs hth p hp => by
  have hir := hr.2.2.1 r hrs
  by_cases hk : okI I p
  ·have h1 := hit p ((hi.me p).2 ⟨r, hrs, (hir.mc hth p).2 ⟨hp, hk⟩⟩)
   exact ⟨h1.1, fun _ => h1.2⟩
  ·have hx := (hir.mi hth ⟨(atI I p).2, p⟩).2 ⟨hp, .inl ⟨hk, rfl⟩⟩
   exact ⟨d.atNot (hn r hrs _ hx), fun h => absurd h hk⟩
 have hat : ∀ r ∈ rs, atI J r.entry = atI I r.entry := fun r hrs => by
  by_cases hth : yc I r.entry
  ·have hir := hr.2.2.1 r hrs
   exact (hit r.entry ((hi.me _).2 ⟨r, hrs, by rw [(hir.thk hth).2.1]; simp⟩)).1
  ·exact (hag r hrs hth _ .start).1
 have hrt : ∀ r ∈ rs, ye J r.entry r := fun r hrs => (hr.2.2.1 r hrs).agree (hat r hrs) (hag r hrs)
 have hen : ∀ p, Ent I [] p ↔ Ent J [] p := fun p => by
  constructor
  ·intro h
   induction h with
   | first => have := Ent.first (I := J) (more := []); rwa [d.en] at this
   | vec h0 => have := Ent.vec (I := J) (more := []) (by rw [d.ve]; exact h0); rwa [d.ve] at this
   | more h => cases h
   | call h1 h2 h3 ih =>
    obtain ⟨r, hrs, rfl⟩ := List.mem_map.1 ((hr.2.2.2 _).2 h1)
    obtain rfl := (hr.2.2.1 r hrs).uniq h2
    exact .call ih (hrt r hrs) h3
   | thunk h1 h2 ih =>
    obtain ⟨r, hrs, rfl⟩ := List.mem_map.1 ((hr.2.2.2 _).2 h1)
    have := Ent.thunk ih ((thunk_agree (hat r hrs)).2 h2)
    rwa [hat r hrs] at this
  ·intro h
   induction h with
   | first => rw [d.en]; exact .first
   | vec h0 => rw [d.ve] at h0 ⊢; exact .vec h0
   | more h => cases h
   | call h1 h2 h3 ih =>
    obtain ⟨r, hrs, rfl⟩ := List.mem_map.1 ((hr.2.2.2 _).2 ih)
    obtain rfl := (hrt r hrs).uniq h2
    exact .call ih (hr.2.2.1 r hrs) h3
   | thunk h1 h2 ih =>
    obtain ⟨r, hrs, rfl⟩ := List.mem_map.1 ((hr.2.2.2 _).2 ih)
    rw [hat r hrs]
    exact .thunk ih ((thunk_agree (hat r hrs)).1 h2)
 have hsz : ∀ p ∈ its, szI J p = szI I p := fun p hp => by unfold szI; rw [(hit p hp).1]
 have hcP : ∀ b' o', ∀ p ∈ its, covP J b' o' p = covP I b' o' p := fun b' o' p hp => by unfold covP; rw [hsz p hp]
 have hcN : ∀ b' o', yZ J its b' o' = yZ I its b' o' := fun b' o' => List.countP_congr fun p hp => by rw [hcP b' o' p hp]
 have hany : ∀ (f g : zc → Bool), (∀ p ∈ its, f p = g p) → its.any f = its.any g := fun f g h => by
  rw [Bool.eq_iff_iff, List.any_eq_true, List.any_eq_true]
  constructor
  ·rintro ⟨p, h1, h2⟩; exact ⟨p, h1, by rw [← h p h1]; exact h2⟩
  ·rintro ⟨p, h1, h2⟩; exact ⟨p, h1, by rw [h p h1]; exact h2⟩
 have hcl : clsL J (clOf J its) = clsL I (clOf I its) := by
  unfold clsL
  rw [d.n]
  refine List.map_congr_left fun b' _ => List.map_congr_left fun o' _ => ?_
  have e1 : inTab J its b' o' = inTab I its b' o' := hany _ _ fun p hp => by rw [(hit p hp).2]
  have e2 : xk J b' o' = xk I b' o' := by unfold xk inObj; rw [d.da]
  unfold clOf
  rw [hcN, e1, e2, hany _ _ fun p hp => by rw [hsz p hp]]
 have hsh : its.filter (yK J its) = its.filter (yK I its) := List.filter_congr fun p hp => by
  unfold yK
  rw [hsz p hp]
  simp only [hcN]
 refine .inr ⟨rs, its, ⟨hr.1, hr.2.1, hrt, fun p => (hr.2.2.2 p).trans (hen p)⟩, hi, .inr ⟨hl, ?_⟩⟩
 unfold fullL
 rw [hcl, hsh]
end
theorem cl_none {I : zp} {its : List zc} {b o : Nat} (h : clOf I its b o = 0 ∨ clOf I its b o = 5) : yZ I its b o = 0 ∧ inTab I its b o = false := by
 unfold clOf at h
 by_cases h0 : yZ I its b o = 0
 ·rw [if_pos h0] at h
  refine ⟨h0, ?_⟩
  cases ht : inTab I its b o with
  | false => rfl
  | true => rw [ht, if_pos rfl] at h; omega
 ·rw [if_neg h0] at h
  exfalso
  split at h
  ·split at h <;> omega
  ·omega
theorem covN_none {I : zp} {its : List zc} {b o : Nat} (h : yZ I its b o = 0) {p : zc} (hp : p ∈ its) : covP I b o p = false := by
 have h1 := covN_pos.1 h
 rw [List.any_eq_false] at h1
 simpa using h1 p hp
theorem few_len {I : zp} (hI : I.Ok) (hf : FewI I) {rs : List yN} {its : List zc} (h : IsItems rs its) (hok : ∀ p ∈ its, okI I p ∧ yQ p) : its.length ≤ 20000 := by
 have h1 : its.length ≤ 16384 := by
  rw [← plA_len]
  exact yq (sorted_nodup yl.irr h.so) fun p hp => mem_plA hf.n3 (ok_at (hok p hp).1).ii (hok p hp).2
 omega
def putB (s : ByteArray) (o : Nat) (x : UInt8) : ByteArray := s.extract 0 o ++ ⟨#[x]⟩ ++ s.extract (o + 1) s.size
theorem putB_list {s : ByteArray} {o : Nat} (x : UInt8) (h : o < s.size) : (putB s o x).data.toList = s.data.toList.set o x := by
 have hl : s.data.toList.length = s.size := by rw [Array.length_toList]; rfl
 unfold putB
 rw [ByteArray.data_append, ByteArray.data_append, Array.toList_append, Array.toList_append, ByteArray.data_extract, ByteArray.data_extract, Array.toList_extract, Array.toList_extract]
 simp only [List.extract_eq_take_drop, Nat.sub_zero, List.drop_zero]
 have hd : List.take (s.size - (o + 1)) (List.drop (o + 1) s.data.toList) = List.drop (o + 1) s.data.toList := List.take_of_length_le (by rw [List.length_drop]; omega)
 rw [List.set_eq_take_append_cons_drop, if_pos (by omega), hd]
 simp
theorem putB_size {s : ByteArray} {o : Nat} (x : UInt8) (h : o < s.size) : (putB s o x).size = s.size := by
 have h1 := congrArg List.length (putB_list x h)
 rw [List.length_set, Array.length_toList, Array.length_toList] at h1
 exact h1
theorem putB_extract {s : ByteArray} {o : Nat} (x : UInt8) (h : o < s.size) {i n : Nat} (hn : o < i ∨ i + n ≤ o) : (putB s o x).extract i (i + n) = s.extract i (i + n) := by
 apply ByteArray.ext
 apply Array.toList_inj.1
 rw [ByteArray.data_extract, ByteArray.data_extract, Array.toList_extract, Array.toList_extract, putB_list x h]
 simp only [List.extract_eq_take_drop, Nat.add_sub_cancel_left]
 apply List.ext_getElem?
 intro k
 by_cases hk : k < n
 ·rw [List.getElem?_take_of_lt hk, List.getElem?_take_of_lt hk, List.getElem?_drop, List.getElem?_drop, List.getElem?_set_ne (by omega)]
 ·rw [List.getElem?_eq_none (by rw [List.length_take]; omega), List.getElem?_eq_none (by rw [List.length_take]; omega)]
def putI (I : zp) (b o : Nat) (x : UInt8) : zp := ⟨I.banks.set b (putB (I.banks.getD b ⟨#[]⟩) o x), I.entry, I.vector, I.data⟩
theorem putI_one {I : zp} (hI : I.Ok) {b o : Nat} (x : UInt8) (hb : b < I.banks.length) (ho : o < 4096) : OneD I (putI I b o x) b o := by
 have hs : (I.banks.getD b ⟨#[]⟩).size = 4096 := by
  rw [List.getD_eq_getElem?_getD, List.getElem?_eq_getElem hb]
  exact hI.sz _ (List.getElem_mem hb)
 have hbk : ∀ p, p.bank.toNat = b → xp (putI I b o x) p = putB (xp I p) o x := fun p hp => by
  unfold xp putI
  rw [hp, List.getD_eq_getElem?_getD, List.getElem?_set_self hb]
  rfl
 have hnb : ∀ p, p.bank.toNat ≠ b → xp (putI I b o x) p = xp I p := fun p hp => by
  unfold xp putI
  simp only [List.getD_eq_getElem?_getD]
  rw [List.getElem?_set_ne (fun e => hp e.symm)]
 have hsz : ∀ p, p.bank.toNat = b → (xp I p).size = 4096 := fun p hp => by unfold xp; rw [hp]; exact hs
 refine ⟨List.length_set, rfl, rfl, rfl, fun p => ?_, fun p n hi hh => ?_⟩
 ·by_cases hp : p.bank.toNat = b
  ·rw [hbk p hp, putB_size x (by rw [hsz p hp]; exact ho)]
  ·rw [hnb p hp]
 ·by_cases hp : p.bank.toNat = b
  ·have h1 := x3 (jd hi).1
   rw [hbk p hp]
   refine putB_extract x (by rw [hsz p hp]; exact ho) ?_
   unfold hitP at hh
   omega
  ·rw [hnb p hp]
theorem putI_ok {I : zp} (hI : I.Ok) {b o : Nat} (x : UInt8) (hb : b < I.banks.length) (ho : o < 4096) : (putI I b o x).Ok := by
 have hs : (I.banks.getD b ⟨#[]⟩).size = 4096 := by
  rw [List.getD_eq_getElem?_getD, List.getElem?_eq_getElem hb]
  exact hI.sz _ (List.getElem_mem hb)
 refine ⟨by show 1 ≤ (List.set _ _ _).length; rw [List.length_set]; exact hI.n1, by show (List.set _ _ _).length ≤ 64; rw [List.length_set]; exact hI.n64, fun s hm => ?_, hI.en, hI.ve, hI.ob, hI.od⟩
 rcases List.mem_or_eq_of_mem_set hm with h | h
 ·exact hI.sz s h
 ·rw [h, putB_size x (by rw [hs]; exact ho)]
  exact hs
end Go.Proofs.YteofmaiojepdkaaGreat
namespace Go.Proofs.YteofmaiojepdkaaGreat
open Go Go.RowKit Go.Maps Go.Sort
def nearB (I : zp) (b o : Nat) (x : yi) : Bool := inI I x.at_ && (decide (x.at_.bank = b) && (decide (zJ x.at_ ≤ o) && decide (o < zJ x.at_ + 7)))
theorem any_take_succ {α : Type} {l : List α} {m : Nat} {x : α} (hx : l[m]? = some x) (f : α → Bool) : (l.take (m + 1)).any f = ((l.take m).any f || f x) := by
 rw [List.take_succ, hx, List.any_append]
 simp
set_option maxRecDepth 100000 in
set_option maxHeartbeats 8000000 in
theorem near_any (I : zp) (hI : I.Ok) (gb gd : Nat) (l : List yi) (A : Option Addr) (c : Nat) (b o : Nat) (ho : o < 4096) (w : World) (h : RdS w 3 A l.length c (xl l)) (hl : l.length ≤ 9223372036854775807) (hp : ∀ x ∈ l, yQ x.at_) (hV : yw w I (some ⟨gb, 0, none⟩) 3 (some ⟨gd, 0, none⟩) 3) :
  Calls Tryz.prog 31 #[.agg #[.slice (some ⟨gb, 0, none⟩) I.banks.length 3, .int .u16 I.entry, .int .u16 I.vector, .slice (some ⟨gd, 0, none⟩) I.data.length 3, .slice none 0 0], .slice A l.length c, .int .i64 b, .int .i64 o] w fun e w' => e = .returned (.bool (l.any (nearB I b o))) ∧ Below w.heap.size w w' := by
 have HA := zh h
 have ha := h.le
 have HV := zh hV
 have HI := zh hI
 have HPL := zh hp
 clear h hV hI hp
 have HX := zh (Bx.one w (imgI I gb gd))
 go_enter Tryz.func31, Tryz.ntmps31
 go_upto_region 1 with fail
 obtain ⟨wi, hwi⟩ : ∃ wi, w.alloc (imgI I gb gd) = wi := ⟨_, rfl⟩
 rw [hwi] at HX ⊢
 clear hwi
 go_wp2_with fail
 go_loopw [9] (fun i wr => ∃ m : Nat, m ≤ l.length ∧ i = .int .i64 m ∧ Hid ((l.take m).any (nearB I b o) = false) ∧ Hid (Bx [imgI I gb gd] w wr)) (fun i _ => l.length - (intOf i).toNat)
 case atStart => exact ⟨0, Nat.zero_le _, rfl, zh rfl, HX⟩
 case round =>
  clear HX
  obtain ⟨m, hm, rfl, HN, HX⟩ := hrel
  by_cases hlt : m < l.length
  ·obtain ⟨x, hx⟩ : ∃ x, l[m]? = some x := ⟨_, List.getElem?_eq_getElem hlt⟩
   obtain ⟨g1, o1, cur1, T1, fr1, rfl, hg1, hex1, -, -⟩ := RdS.eltPart (f := issL) (fun _ => rfl) (HA.out.below HX.out.bb) hx (a := 1) (m := 2) (by omega) (L := yV x.at_) rfl
   have hpx := HPL.out x (List.mem_of_getElem? hx)
   have HE1 := zh hex1
   have HG := zh (And.intro hg1 HX.out.b0)
   have HLT := zh hlt
   have HXX := zh hx
   have HPX := zh (show 0 ≤ x.at_.addr ∧ x.at_.addr < 65536 from hpx.2)
   clear hg1 hex1 hx hpx
   go_upto_region 4 with fail
   refine zm (S := fun W => W.heap[g1]? = some (.cells cur1 T1 fr1) ∧ W.heap[w.heap.size]? = some (imgI I gb gd)) [13] (by kernel_rfl) ⟨HG.out.1, HG.out.2⟩ (fun hHeld => ?_)
   (refine tkZ 0 (v := .agg #[.slice (some ⟨gb, 0, none⟩) I.banks.length 3, .int .u16 I.entry, .int .u16 I.vector, .slice (some ⟨gd, 0, none⟩) I.data.length 3, .slice none 0 0]) rfl (by assumption) (fun W hS => zW _ _ rfl _ rfl _ _ _ hS.2 (by kernel_rfl)) ?_; (try simp only [zA, zB, zC, Act.put, zD, zE, zF]))
   (refine tkZ 1 (v := ?_) rfl (by assumption) ?_ ?_; rotate_left; (focus (intro w hSw; (try dsimp only at hSw); go_simp; try with_reducible rfl)); (try simp only [zA, zB, zC, Act.put, zD, zE, zF]))
   (refine tkZ 2 (v := ?_) rfl (by assumption) ?_ ?_; rotate_left; (focus (intro w hSw; (try dsimp only at hSw); go_simp; try with_reducible rfl)); (try simp only [zA, zB, zC, Act.put, zD, zE, zF]))
   (refine tkZ 3 (v := .pointer (some ⟨g1, o1 + m * 3, none⟩)) rfl (by assumption) (fun W hS => by clear hS; go_simp; first | done | rfl) ?_; (try simp only [zA, zB, zC, Act.put, zD, zE, zF]))
   (refine tkZ 4 (v := .pointer (some ⟨g1, o1 + m * 3 + 1, none⟩)) rfl (by assumption) (fun W hS => by clear hS; go_simp; first | done | rfl) ?_; (try simp only [zA, zB, zC, Act.put, zD, zE, zF]))
   (refine tkZ 5 (v := .agg #[.int .i64 x.at_.bank, .int .u16 x.at_.addr]) rfl (by assumption) (fun W hS => zO _ _ rfl _ _ rfl _ _ _ hS.1 (yV x.at_) HE1.out (by kernel_rfl)) ?_; (try simp only [zA, zB, zC, Act.put, zD, zE, zF]))
   have HXD := zh (HX.out.stay (Below.refl wr.heap.size wr).drew)
   obtain ⟨wd, hwd⟩ : ∃ wd, wr.drew = wd := ⟨_, rfl⟩
   have HWD := zh (hwd ▸ (Below.refl wr.heap.size wr).drew)
   rw [hwd] at HXD hHeld ⊢
   clear hwd hHeld
   have HV1 := zh (HV.out.below HXD.out.bb)
   cases hin : inI I x.at_ with
   | false =>
    have HIN := zh hin
    clear hin
    refine yk 6 rfl (fun K hK => ?_)
    go_simp
    go_at_call 27
    (with_reducible refine (roff_out I HI.out _ _ _ _ none 0 0 x.at_ HPX.out.1 HPX.out.2 _ HV1.out HIN.out).mono ?_)
    rintro e9 w9 ⟨rfl, hb9⟩
    have HX9 := zh (HXD.out.stay hb9)
    have hHeld := And.intro (za (HWD.out.trans (hb9.mono HWD.out.size)) HG.out.1) HX9.out.b0
    clear hb9
    go_simp
    refine hK.out _ _ (.inr hHeld) ?_
    (try simp only [zA, zB, zC, Act.put, zD, zE, zF])
    clear hK K
    (refine tkZ 7 (v := ?_) rfl (by assumption) ?_ ?_; rotate_left; (focus (intro w hSw; (try dsimp only at hSw); go_simp; try with_reducible rfl)); (try simp only [zA, zB, zC, Act.put, zD, zE, zF]))
    (refine tkZ 8 (v := ?_) rfl (by assumption) ?_ ?_; rotate_left; (focus (intro w hSw; (try dsimp only at hSw); go_simp; try with_reducible rfl)); (try simp only [zA, zB, zC, Act.put, zD, zE, zF]))
    (refine tkZ 9 (v := ?_) rfl (by assumption) ?_ ?_; rotate_left; (focus (intro w hSw; (try dsimp only at hSw); go_simp; try with_reducible rfl)); (try simp only [zA, zB, zC, Act.put, zD, zE, zF]))
    (refine tkZ 10 (v := ?_) rfl (by assumption) ?_ ?_; rotate_left; (focus (intro w hSw; (try dsimp only at hSw); go_simp; try with_reducible rfl)); (try simp only [zA, zB, zC, Act.put, zD, zE, zF]))
    (refine tkZ 11 (v := ?_) rfl (by assumption) ?_ ?_; rotate_left; (focus (intro w hSw; (try dsimp only at hSw); go_simp; try with_reducible rfl)); (try simp only [zA, zB, zC, Act.put, zD, zE, zF]))
    (refine tkZ 12 (v := ?_) rfl (by assumption) ?_ ?_; rotate_left; (focus (intro w hSw; (try dsimp only at hSw); go_simp; try with_reducible rfl)); (try simp only [zA, zB, zC, Act.put, zD, zE, zF]))
    refine ya 13 ?_
    simp only [List.drop_succ_cons, List.drop_zero]
    clear hHeld
    go_wp2_with fail
    go_roundw
    case rel => exact ⟨m + 1, HLT.out, by go_num, zh (by rw [any_take_succ HXX.out, HN.out]; unfold nearB; rw [HIN.out]; rfl), HX9⟩
    case measure => have h1 := HLT.out; simp [intOf]; omega
   | true =>
    have HIN := zh hin
    clear hin
    refine yk 6 rfl (fun K hK => ?_)
    go_simp
    go_at_call 27
    (with_reducible refine (roff_in I HI.out _ _ _ _ none 0 0 x.at_ HPX.out.1 HPX.out.2 _ HV1.out HIN.out).mono ?_)
    rintro e9 w9 ⟨rfl, hb9⟩
    have HX9 := zh (HXD.out.stay hb9)
    have hHeld := And.intro (za (HWD.out.trans (hb9.mono HWD.out.size)) HG.out.1) HX9.out.b0
    clear hb9
    go_simp
    refine hK.out _ _ (.inr hHeld) ?_
    (try simp only [zA, zB, zC, Act.put, zD, zE, zF])
    clear hK K
    (refine tkZ 7 (v := ?_) rfl (by assumption) ?_ ?_; rotate_left; (focus (intro w hSw; (try dsimp only at hSw); go_simp; try with_reducible rfl)); (try simp only [zA, zB, zC, Act.put, zD, zE, zF]))
    (refine tkZ 8 (v := ?_) rfl (by assumption) ?_ ?_; rotate_left; (focus (intro w hSw; (try dsimp only at hSw); go_simp; try with_reducible rfl)); (try simp only [zA, zB, zC, Act.put, zD, zE, zF]))
    (refine tkZ 9 (v := ?_) rfl (by assumption) ?_ ?_; rotate_left; (focus (intro w hSw; (try dsimp only at hSw); go_simp; try with_reducible rfl)); (try simp only [zA, zB, zC, Act.put, zD, zE, zF]))
    (refine tkZ 10 (v := ?_) rfl (by assumption) ?_ ?_; rotate_left; (focus (intro w hSw; (try dsimp only at hSw); go_simp; try with_reducible rfl)); (try simp only [zA, zB, zC, Act.put, zD, zE, zF]))
    (refine tkZ 11 (v := ?_) rfl (by assumption) ?_ ?_; rotate_left; (focus (intro w hSw; (try dsimp only at hSw); go_simp; try with_reducible rfl)); (try simp only [zA, zB, zC, Act.put, zD, zE, zF]))
    (refine tkZ 12 (v := ?_) rfl (by assumption) ?_ ?_; rotate_left; (focus (intro w hSw; (try dsimp only at hSw); go_simp; try with_reducible rfl)); (try simp only [zA, zB, zC, Act.put, zD, zE, zF]))
    refine ya 13 ?_
    simp only [List.drop_succ_cons, List.drop_zero]
    clear hHeld
    have HNB : nearB I b o x = (decide (x.at_.bank = b) && (decide (zJ x.at_ ≤ o) && decide (o < zJ x.at_ + 7))) := by unfold nearB; rw [HIN.out, Bool.true_and]
    have HNB := zh HNB
    have hof : zJ x.at_ < 4096 := by unfold zJ; have := HPX.out.1; omega
    generalize zJ x.at_ = f at *
    generalize hq : x.at_.bank = q at *
    have HQ := zh hq
    clear hq
    by_cases c1 : q = (b : Int)
    ·by_cases c2 : f ≤ o
     ·by_cases c3 : o < f + 7
      ·have HT := zh (show l.any (nearB I b o) = true from List.any_eq_true.2 ⟨x, List.mem_of_getElem? HXX.out, by rw [HNB.out, decide_eq_true c1, decide_eq_true c2, decide_eq_true c3]; rfl⟩)
       go_wp2_with fail
       go_ret
       exact ⟨by rw [HT.out]; rfl, HX9.out.bb⟩
      ·have HT := zh (show nearB I b o x = false by rw [HNB.out, decide_eq_false c3]; simp)
       go_wp2_with fail
       go_roundw
       case rel => exact ⟨m + 1, HLT.out, by go_num, zh (by rw [any_take_succ HXX.out, HN.out, HT.out]; rfl), HX9⟩
       case measure => have h1 := HLT.out; simp [intOf]; omega
     ·have HT := zh (show nearB I b o x = false by rw [HNB.out, decide_eq_false c2]; simp)
      go_wp2_with fail
      go_roundw
      case rel => exact ⟨m + 1, HLT.out, by go_num, zh (by rw [any_take_succ HXX.out, HN.out, HT.out]; rfl), HX9⟩
      case measure => have h1 := HLT.out; simp [intOf]; omega
    ·have HT := zh (show nearB I b o x = false by rw [HNB.out, decide_eq_false c1]; rfl)
     go_wp2_with fail
     go_roundw
     case rel => exact ⟨m + 1, HLT.out, by go_num, zh (by rw [any_take_succ HXX.out, HN.out, HT.out]; rfl), HX9⟩
     case measure => have h1 := HLT.out; simp [intOf]; omega
  ·obtain rfl : m = l.length := by omega
   have HM := zh (show l.any (nearB I b o) = false by have := HN.out; rwa [List.take_of_length_le (zn _)] at this)
   go_wp2_with fail
   go_ret
   exact ⟨by rw [HM.out]; rfl, HX.out.bb⟩
end Go.Proofs.YteofmaiojepdkaaGreat
namespace Go.Proofs.YteofmaiojepdkaaGreat
open Go Go.RowKit Go.Maps Go.Sort
theorem i64_and1 (n : Int) : bits .and .i64 n 1 = n % 2 := by
 have h15 : (BitVec.ofInt 64 1).toNat = 2 ^ 1 - 1 := by decide
 have key : (BitVec.ofInt 64 n &&& BitVec.ofInt 64 1).toNat = (n % ((2 ^ 64 : Nat) : Int)).toNat % 2 ^ 1 := by
  rw [BitVec.toNat_and, BitVec.toNat_ofInt, h15, Nat.and_two_pow_sub_one_eq_mod]
 show IntKind.i64.wrap ((BitVec.ofInt 64 n &&& BitVec.ofInt 64 1).toNat : Nat) = n % 2
 rw [key, IntKind.wrap_i64]
 omega
theorem i64_and4095 (n : Int) : bits .and .i64 n 4095 = n % 4096 := by
 have h15 : (BitVec.ofInt 64 4095).toNat = 2 ^ 12 - 1 := by decide
 have key : (BitVec.ofInt 64 n &&& BitVec.ofInt 64 4095).toNat = (n % ((2 ^ 64 : Nat) : Int)).toNat % 2 ^ 12 := by
  rw [BitVec.toNat_and, BitVec.toNat_ofInt, h15, Nat.and_two_pow_sub_one_eq_mod]
 show IntKind.i64.wrap ((BitVec.ofInt 64 n &&& BitVec.ofInt 64 4095).toNat : Nat) = n % 4096
 rw [key, IntKind.wrap_i64]
 omega
theorem and1_nat (n : Int) : ∃ b : Nat, bits .and .i64 n 1 = (b : Int) ∧ b < 2 := ⟨(n % 2).toNat, by rw [i64_and1]; omega, by omega⟩
theorem and4095_nat (n : Int) : ∃ b : Nat, bits .and .i64 n 4095 = (b : Int) ∧ b < 4096 := ⟨(n % 4096).toNat, by rw [i64_and4095]; omega, by omega⟩
theorem infoStr : (Tryz.prog.info? 9).map (fun i => (i.zero, i.size, i.bytes)) = some (some (.string ⟨#[]⟩), 1, 16) := by kernel_rfl
abbrev boxT (N : Nat → Int) : Obj := .cells #[.int .i64 (N 0), .int .i64 (N 1)] 80
theorem LstR.iss {I : zp} {more : List zc} {rs : List yN} (h : LstR I more rs) {r : yN} (hr : r ∈ rs) : ∀ x ∈ r.iss, yQ x.at_ := fun x hx => by
 have hir := h.rt r hr
 by_cases ht : yc I r.entry
 ·rw [(hir.thk ht).2.2.2] at hx
  cases hx
 ·exact ((hir.mi ht x).1 hx).1.plOk (h.pl r hr)
theorem scan_put {I : zp} {b o : Nat} {x : UInt8} (hJ : (putI I b o x).Ok) {gn cp gd : Nat} {W : World} (hV : yw W (putI I b o x) (some ⟨gn, 0, none⟩) cp (some ⟨gd, 0, none⟩) 3) :
  Calls Tryz.prog 17 #[.agg #[.slice (some ⟨gn, 0, none⟩) I.banks.length cp, .int .u16 I.entry, .int .u16 I.vector, .slice (some ⟨gd, 0, none⟩) I.data.length 3, .slice none 0 0], .slice none 0 0] W fun e W' => ∃ L c' vc vr vi, e = .returned (.agg #[vc, vr, vi]) ∧ x7 (putI I b o x) [] L ∧ L.cls = clsL (putI I b o x) c' ∧ LstD (putI I b o x) I.banks.length c' L.rts L.iss vc vr vi W' ∧ Below W.heap.size W W' := by
 have hl : (putI I b o x).banks.length = I.banks.length := List.length_set
 have h := scan_any (putI I b o x) hJ (some ⟨gn, 0, none⟩) cp (some ⟨gd, 0, none⟩) 3 none 0 0 [] (fun p hp => by cases hp) (by simp) none 0 W hV ⟨zn _, rfl, fun h => absurd h (Nat.lt_irrefl 0)⟩ (fun g off h => by cases h)
 rw [hl] at h
 refine h.mono fun e W' ⟨L, vc, vr, vi, he, hL, hv, hb⟩ => ?_
 obtain ⟨c, hc, hr⟩ := hv.read hJ
 rw [hl] at hr
 exact ⟨L, c, vc, vr, vi, he, hL, hc, hr, hb⟩
theorem put_row {I : zp} {b o : Nat} {x : UInt8} {s : ByteArray} (hs : I.banks[b]? = some s) {cur : Array Value} {W : World} {gn cp : Nat} {T : TypeId} {fr : Nat × Nat} (hcp : I.banks.length ≤ cp) (hcur : ∀ j, j < I.banks.length → cur[j]? = (I.banks.map Value.string)[j]?) (hW : W.heap[gn]? = some (.cells (cur.setIfInBounds b (.string (putB s o x))) T fr)) :
  RdS W 1 (some ⟨gn, 0, none⟩) (putI I b o x).banks.length cp ((putI I b o x).banks.map Value.string) := by
 have hl : (putI I b o x).banks.length = I.banks.length := List.length_set
 have hb : b < I.banks.length := (List.getElem?_eq_some_iff.1 hs).1
 refine ⟨by rw [hl]; exact hcp, by simp, fun _ => ⟨gn, 0, _, T, fr, rfl, hW, fun j hj => ?_⟩⟩
 rw [List.length_map, hl] at hj
 rw [Nat.zero_add, Array.getElem?_setIfInBounds]
 have h1 := hcur j hj
 by_cases hbj : b = j
 ·subst hbj
  have hsz : b < cur.size := by
   rw [List.getElem?_map, hs] at h1
   exact (Array.getElem?_eq_some_iff.1 h1).1
  rw [if_pos rfl, if_pos hsz, List.getElem?_map]
  unfold putI
  rw [List.getElem?_set_self hb, List.getD_eq_getElem?_getD, hs]
  rfl
 ·rw [if_neg hbj, h1, List.getElem?_map, List.getElem?_map]
  unfold putI
  rw [List.getElem?_set_ne hbj]
end Go.Proofs.YteofmaiojepdkaaGreat
