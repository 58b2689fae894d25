import Derived.Test.YtpaecfhgahheaaaBase4
set_option linter.unusedVariables false
set_option linter.unusedSimpArgs false

/- Words that all plain proofs use. -/
namespace Go.Proofs.Ytpaecfhgahheaaa.V

theorem wrap_of {x : Int} (h0 : -9223372036854775808 ≤ x) (h1 : x ≤ 9223372036854775807) : IntKind.i64.wrap x = x := by
  rw [IntKind.wrap_i64]; omega

theorem wrap_succ {i : Nat} (h : i ≤ 9223372036854775806) : IntKind.i64.wrap ((i : Int) + 1) = ((i + 1 : Nat) : Int) := by rw [wrap_of (by omega) (by omega)]; rfl

theorem fits_of {n b : Nat} (hn : n ≤ 1000000) (hb : b ≤ 1000) : fits n b = true := by
  unfold fits maxBytes
  have : n * b ≤ 1000000 * 1000 := Nat.mul_le_mul hn hb
  exact decide_eq_true ⟨by omega, by omega⟩

theorem within_of {j n : Nat} (h : j < n) : within (j : Int) n = true := by
  unfold within; exact decide_eq_true ⟨by omega, by omega⟩

theorem within_int {j : Int} {n : Nat} (h0 : 0 ≤ j) (h : j < n) : within j n = true := by
  unfold within; exact decide_eq_true ⟨h0, by omega⟩

theorem lt_true {a b : Int} (h : a < b) : decide (a < b) = true := decide_eq_true h
theorem lt_false {a b : Int} (h : ¬ a < b) : decide (a < b) = false := decide_eq_false h
theorem le_true {a b : Int} (h : a ≤ b) : decide (a ≤ b) = true := decide_eq_true h
theorem le_false {a b : Int} (h : ¬ a ≤ b) : decide (a ≤ b) = false := decide_eq_false h
theorem eq_true {a b : Int} (h : a = b) : decide (a = b) = true := decide_eq_true h
theorem eq_false {a b : Int} (h : ¬ a = b) : decide (a = b) = false := decide_eq_false h

theorem strEq_refl (x : ByteArray) : strEq x x = true := by simp [strEq]

theorem elem_mem {i : Nat} {l : List (List D)} (h : i < l.length) : elem i l ∈ l := by
  unfold elem
  rw [List.getD_eq_getElem?_getD, List.getElem?_eq_getElem h]
  exact List.getElem_mem h

/-- Sizes of data as it comes. -/
theorem WFD.rows_len {bytes : Nat} {fts : List FT} {d : D} (h : WFD (.row bytes fts) d) : d.toRows.length * bytes ≤ reachBytes := by
  cases h with
  | nil => simp [D.toRows]
  | row _ _ rows hb hl hr => simp only [D.toRows]; first | exact hb | (simpa using hb)

theorem WFD.str_len {d : D} (h : WFD .str d) : d.toStr.size ≤ reachBytes := by
  cases h with
  | str s h => exact h

theorem WFD.rows {bytes : Nat} {fts : List FT} {d : D} (h : WFD (.row bytes fts) d) : ∀ r ∈ d.toRows, WFDs fts r := by
  cases h with
  | nil => intro r hr; cases hr
  | row _ _ rows hb hl hr =>
    intro r hm
    refine ⟨hl r hm, fun j ft d h1 h2 => hr r hm j ft d h1 h2⟩

theorem WFDs.cell {fts : List FT} {ds : List D} (h : WFDs fts ds) {j : Nat} {ft : FT} (hj : fts[j]? = some ft) : WFD ft (V.cell j ds) := by
  have hlt : j < ds.length := by rw [h.len]; exact (List.getElem?_eq_some_iff.1 hj).1
  have hd := List.getElem?_eq_getElem hlt
  unfold V.cell
  rw [List.getD_eq_getElem?_getD, hd]
  exact h.at_ j ft _ hj hd

theorem reach_lt : reachBytes < 140737488355328 := by decide

end Go.Proofs.Ytpaecfhgahheaaa.V

/- Numbers as bytes: plain laws. -/
namespace Go.Proofs.Ytpaecfhgahheaaa.V

/-- A number's bytes. -/
def numL (m : Nat) : List Nat := if m < 128 then [m] else (m % 128 + 128) :: numL (m / 128)
termination_by m
decreasing_by omega

def initL (m : Nat) : List Nat := if m < 128 then [] else (m % 128 + 128) :: initL (m / 128)
termination_by m
decreasing_by omega

def lastL (m : Nat) : Nat := if m < 128 then m else lastL (m / 128)
termination_by m
decreasing_by omega

theorem numL_eq (m : Nat) : numL m = initL m ++ [lastL m] := by
  induction m using Nat.strongRecOn with
  | ind m ih =>
    rw [numL, initL, lastL]
    split
    · rfl
    · rw [ih (m / 128) (by omega)]; rfl

theorem lastL_lt (m : Nat) : lastL m < 128 := by
  induction m using Nat.strongRecOn with
  | ind m ih =>
    rw [lastL]
    split
    · assumption
    · exact ih (m / 128) (by omega)

theorem numL_lt (m : Nat) : ∀ c ∈ numL m, c < 256 := by
  induction m using Nat.strongRecOn with
  | ind m ih =>
    rw [numL]
    split
    · intro c hc; simp only [List.mem_singleton] at hc; omega
    · intro c hc
      rcases List.mem_cons.1 hc with rfl | hc
      · omega
      · exact ih (m / 128) (by omega) c hc

theorem numL_len (n : Nat) : ∀ m, m < 128 ^ (n + 1) → (numL m).length ≤ n + 1 := by
  induction n with
  | zero => intro m h; rw [numL, if_pos (by simpa using h)]; simp
  | succ n ih =>
    intro m h
    rw [numL]
    split
    · simp
    · have : m / 128 < 128 ^ (n + 1) := Nat.div_lt_of_lt_mul (by rw [Nat.pow_succ] at h; omega)
      have := ih (m / 128) this
      simp only [List.length_cons]; omega

theorem numL_len10 {m : Nat} (h : m < 9223372036854775808) : (numL m).length ≤ 10 := by
  have := numL_len 9 m (by simp; omega)
  omega

/-- No number's bytes begin another's. -/
theorem numL_free : ∀ (a b : Nat) (x y : List Nat), numL a ++ x = numL b ++ y → a = b ∧ x = y := by
  intro a
  induction a using Nat.strongRecOn with
  | ind a ih =>
    intro b x y h
    rw [numL, numL.eq_1 b] at h
    split at h <;> split at h
    · simp only [List.cons_append, List.nil_append, List.cons.injEq] at h; exact h
    · simp only [List.cons_append, List.nil_append, List.cons.injEq] at h; omega
    · simp only [List.cons_append, List.nil_append, List.cons.injEq] at h; omega
    · simp only [List.cons_append, List.cons.injEq] at h
      obtain ⟨h1, h2⟩ := ih (a / 128) (by omega) (b / 128) x y h.2
      exact ⟨by omega, h2⟩

theorem numL_inj {a b : Nat} (h : numL a = numL b) : a = b := (numL_free a b [] [] (by rw [List.append_nil, List.append_nil]; exact h)).1

/-- Bytes, as rows. -/
def byD (l : List Nat) : List (List D) := l.map fun (c : Nat) => [D.int (c : Int)]

theorem byD_len (l : List Nat) : (byD l).length = l.length := by simp [byD]
theorem byD_append (a b : List Nat) : byD (a ++ b) = byD a ++ byD b := by simp [byD]

def strL (s : ByteArray) : List Nat := s.data.toList.map (·.toNat)

theorem bytesD_eq (s : ByteArray) : bytesD s = byD (strL s) := by
  unfold bytesD byD strL
  rw [List.map_map]; rfl

theorem strL_len (s : ByteArray) : (strL s).length = s.size := by simp [strL]
theorem bytesD_len (s : ByteArray) : (bytesD s).length = s.size := by rw [bytesD_eq, byD_len, strL_len]

theorem strL_lt (s : ByteArray) : ∀ c ∈ strL s, c < 256 := by
  intro c hc
  unfold strL at hc
  obtain ⟨u, _, rfl⟩ := List.mem_map.1 hc
  exact u.toNat_lt

theorem strL_inj {s t : ByteArray} (h : strL s = strL t) : s = t := by
  unfold strL at h
  have h2 : s.data.toList = t.data.toList := (List.map_inj_right (fun a b e => UInt8.toNat_inj.1 e)).1 h
  cases s; cases t
  congr
  exact Array.toList_inj.1 h2

theorem strOf_byD {l : List Nat} (h : ∀ c ∈ l, c < 256) : strL (strOf (byD l)) = l := by
  unfold strOf byD strL
  simp only [List.map_map]
  conv => rhs; rw [← List.map_id l]
  apply List.map_congr_left
  intro c hc
  simp only [Function.comp, byteOf, cell, List.getD_eq_getElem?_getD, List.getElem?_cons_zero, Option.getD_some, D.toInt, Int.toNat_natCast, id_eq]
  rw [UInt8.toNat_ofNat']
  exact Nat.mod_eq_of_lt (h c hc)

theorem strEq_iff (s t : ByteArray) : strEq s t = decide (strL s = strL t) := by
  unfold strEq
  by_cases h : s = t
  · subst h; simp
  · rw [decide_eq_false (fun e => h (strL_inj e))]
    have : ¬ s.toList = t.toList := by
      intro e
      apply h
      cases s; cases t
      congr
      have := e
      simp only [ByteArray.toList_eq] at this
      exact Array.toList_inj.1 this
    simpa using this

theorem strEq_byD {a b : List Nat} (ha : ∀ c ∈ a, c < 256) (hb : ∀ c ∈ b, c < 256) : strEq (strOf (byD a)) (strOf (byD b)) = decide (a = b) := by
  rw [strEq_iff, strOf_byD ha, strOf_byD hb]

/-- A number, as the program has it: none is below 0. -/
def natOfI (n : Int) : Nat := (if 0 > n then 0 else n).toNat

theorem natOfI_eq (n : Int) : (if 0 > n then 0 else n) = (natOfI n : Int) := by
  unfold natOfI; split <;> omega

theorem or128 : ∀ j : Fin 256, (BitVec.ofInt 8 ((j.val : Nat) : Int) ||| BitVec.ofInt 8 128).toNat = j.val % 128 + 128 := by decide +kernel

theorem wrap8_small {m : Nat} (h : m < 256) : IntKind.u8.wrap (m : Int) = m := by
  rw [IntKind.wrap_u8]; omega

theorem wrap8_or (m : Nat) : IntKind.u8.wrap ↑(BitVec.ofInt IntKind.u8.bits (IntKind.u8.wrap (m : Int)) ||| BitVec.ofInt IntKind.u8.bits 128).toNat = ((m % 128 + 128 : Nat) : Int) := by
  have h1 : IntKind.u8.wrap (m : Int) = ((m % 256 : Nat) : Int) := by rw [IntKind.wrap_u8]; omega
  rw [h1, show IntKind.u8.bits = 8 from rfl, or128 ⟨m % 256, Nat.mod_lt _ (by omega)⟩]
  show IntKind.u8.wrap ((m % 256 % 128 + 128 : Nat) : Int) = _
  rw [wrap8_small (by omega)]
  omega

theorem fdiv128 (m : Nat) : (m : Int).fdiv (2 ^ min (Int.toNat 7) IntKind.i64.bits) = ((m / 128 : Nat) : Int) := by
  have h : (2 : Int) ^ min (Int.toNat 7) IntKind.i64.bits = 128 := by decide
  rw [h, Int.fdiv_eq_ediv_of_nonneg _ (by omega)]
  omega
end Go.Proofs.Ytpaecfhgahheaaa.V

/- disk: a map of files, and a row of files that rises by names. -/
namespace Go.Proofs.Ytpaecfhgahheaaa.V
open Go.Sort

/-- A file: its name, its bytes, how many are synced. -/
structure Fi where
  n : ByteArray
  b : List (List D)
  s : Nat

def Fi.ent (f : Fi) : D × List D := (.str f.n, [.row f.b, .int f.s])
def Fi.row (f : Fi) : List D := [.str f.n, .row f.b, .int f.s]
def Lt (f g : Fi) : Prop := f.n.data.toList < g.n.data.toList
def tot (fl : List Fi) : Nat := (fl.map fun f => f.b.length).sum

structure Good (fl : List Fi) : Prop where
  so : fl.Pairwise Lt
  nm : ∀ f ∈ fl, f.n.size ≤ 32
  sy : ∀ f ∈ fl, f.s ≤ f.b.length
  to : tot fl ≤ 1048576
  ln : fl.length ≤ 100

def Rep (es : List (D × List D)) (fl : List Fi) : Prop := es.Perm (fl.map Fi.ent)

theorem dat_inj {a b : ByteArray} (h : a.data.toList = b.data.toList) : a = b := by
  cases a; cases b
  congr
  exact Array.toList_inj.1 h

theorem strLt_iff (x y : ByteArray) : strLt x y = decide (x.data.toList < y.data.toList) := by
  unfold strLt
  rw [bytesLess_eq, ByteArray.toList_eq, ByteArray.toList_eq]

theorem strEq_dec (x y : ByteArray) : strEq x y = decide (x = y) := by
  unfold strEq
  rw [ByteArray.toList_eq, ByteArray.toList_eq]
  by_cases h : x = y
  · subst h; simp
  · rw [decide_eq_false h]
    have : ¬ x.data.toList = y.data.toList := fun e => h (dat_inj e)
    simpa using this

theorem eqKey_str (x y : ByteArray) : D.eqKey (.str x) (.str y) = decide (x = y) := strEq_dec x y

theorem Lt.ne {f g : Fi} (h : Lt f g) : f.n ≠ g.n := fun e => by
  unfold Lt at h; rw [e] at h; exact List.lt_irrefl _ h

theorem uniq {fl : List Fi} (h : fl.Pairwise Lt) : ∀ {f g : Fi}, f ∈ fl → g ∈ fl → f.n = g.n → f = g := by
  induction fl with
  | nil => intro f g h; cases h
  | cons x r ih =>
    obtain ⟨h1, h2⟩ := List.pairwise_cons.1 h
    intro f g hf hg e
    rcases List.mem_cons.1 hf with rfl | hf2 <;> rcases List.mem_cons.1 hg with rfl | hg2
    · rfl
    · exact absurd e (h1 _ hg2).ne
    · exact absurd e.symm (h1 _ hf2).ne
    · exact ih h2 hf2 hg2 e

/-! The words of a map. -/
theorem mget_mem {es : List (D × List D)} {k : D} {z : List D} {p : D × List D} (hu : ∀ q ∈ es, D.eqKey k q.1 = true → q.2 = p.2) (hp : p ∈ es) (he : D.eqKey k p.1 = true) : mget es k z = p.2 := by
  induction es with
  | nil => cases hp
  | cons q r ih =>
    obtain ⟨a, w⟩ := q
    unfold mget
    cases hq : D.eqKey k a with
    | true => exact hu (a, w) (List.mem_cons_self ..) hq
    | false =>
      rw [cond_false]
      refine ih (fun q hq => hu q (List.mem_cons_of_mem _ hq)) ?_
      rcases List.mem_cons.1 hp with rfl | hp
      · rw [hq] at he; cases he
      · exact hp

theorem mget_none {es : List (D × List D)} {k : D} {z : List D} (hu : ∀ q ∈ es, D.eqKey k q.1 = false) : mget es k z = z := by
  induction es with
  | nil => rfl
  | cons q r ih =>
    obtain ⟨a, w⟩ := q
    unfold mget
    rw [hu (a, w) (List.mem_cons_self ..), cond_false]
    exact ih fun q hq => hu q (List.mem_cons_of_mem _ hq)

theorem mhas_mem {es : List (D × List D)} {k : D} {p : D × List D} (hp : p ∈ es) (he : D.eqKey k p.1 = true) : mhas es k = true := by
  induction es with
  | nil => cases hp
  | cons q r ih =>
    obtain ⟨a, w⟩ := q
    unfold mhas
    cases hq : D.eqKey k a with
    | true => rfl
    | false =>
      rw [cond_false]
      refine ih ?_
      rcases List.mem_cons.1 hp with rfl | hp
      · rw [hq] at he; cases he
      · exact hp

theorem mhas_none {es : List (D × List D)} {k : D} (hu : ∀ q ∈ es, D.eqKey k q.1 = false) : mhas es k = false := by
  induction es with
  | nil => rfl
  | cons q r ih =>
    obtain ⟨a, w⟩ := q
    unfold mhas
    rw [hu (a, w) (List.mem_cons_self ..), cond_false]
    exact ih fun q hq => hu q (List.mem_cons_of_mem _ hq)

theorem mdel_none {es : List (D × List D)} {k : D} (hu : ∀ q ∈ es, D.eqKey k q.1 = false) : mdel es k = es := by
  induction es with
  | nil => rfl
  | cons q r ih =>
    obtain ⟨a, w⟩ := q
    unfold mdel
    rw [hu (a, w) (List.mem_cons_self ..), cond_false, ih fun q hq => hu q (List.mem_cons_of_mem _ hq)]

theorem mdel_mem {es : List (D × List D)} {k : D} {p : D × List D} (hp : p ∈ es) (he : D.eqKey k p.1 = true) : ∃ q ∈ es, D.eqKey k q.1 = true ∧ es.Perm (q :: mdel es k) := by
  induction es with
  | nil => cases hp
  | cons q r ih =>
    obtain ⟨a, w⟩ := q
    unfold mdel
    cases hq : D.eqKey k a with
    | true => exact ⟨(a, w), List.mem_cons_self .., hq, .refl _⟩
    | false =>
      rw [cond_false]
      have : p ∈ r := by
        rcases List.mem_cons.1 hp with rfl | hp
        · rw [hq] at he; cases he
        · exact hp
      obtain ⟨q, h1, h2, h3⟩ := ih this
      exact ⟨q, List.mem_cons_of_mem _ h1, h2, (h3.cons (a, w)).trans (.swap ..)⟩

theorem mput_perm (es : List (D × List D)) (k : D) (v : List D) : (mput es k v).Perm ((k, v) :: mdel es k) := by
  induction es with
  | nil => exact .refl _
  | cons q r ih =>
    obtain ⟨a, w⟩ := q
    unfold mput mdel
    cases hq : D.eqKey k a with
    | true => exact .refl _
    | false => exact (ih.cons (a, w)).trans (.swap ..)

/-! Rows of files. -/
def lk (n : ByteArray) : List Fi → Option Fi
  | [] => none
  | f :: r => if f.n = n then some f else lk n r
def del (n : ByteArray) : List Fi → List Fi
  | [] => []
  | f :: r => if f.n = n then del n r else f :: del n r
def ins (f : Fi) : List Fi → List Fi
  | [] => [f]
  | x :: r => if f.n.data.toList < x.n.data.toList then f :: x :: r else x :: ins f r
def put (f : Fi) (fl : List Fi) : List Fi := ins f (del f.n fl)

theorem lk_some {n : ByteArray} {fl : List Fi} {f : Fi} (h : lk n fl = some f) : f ∈ fl ∧ f.n = n := by
  induction fl with
  | nil => cases h
  | cons x r ih =>
    unfold lk at h
    split at h
    · cases h; exact ⟨List.mem_cons_self .., by assumption⟩
    · exact ⟨List.mem_cons_of_mem _ (ih h).1, (ih h).2⟩

theorem lk_none {n : ByteArray} {fl : List Fi} (h : lk n fl = none) : ∀ f ∈ fl, f.n ≠ n := by
  induction fl with
  | nil => intro f hf; cases hf
  | cons x r ih =>
    unfold lk at h
    split at h
    · cases h
    · intro f hf
      rcases List.mem_cons.1 hf with rfl | hf
      · assumption
      · exact ih h f hf

theorem lk_of {fl : List Fi} (h : fl.Pairwise Lt) {f : Fi} (hf : f ∈ fl) : lk f.n fl = some f := by
  cases e : lk f.n fl with
  | none => exact absurd rfl (lk_none e f hf)
  | some g => obtain ⟨h1, h2⟩ := lk_some e; rw [uniq h h1 hf h2]

theorem mem_del {n : ByteArray} {fl : List Fi} {f : Fi} : f ∈ del n fl ↔ f ∈ fl ∧ f.n ≠ n := by
  induction fl with
  | nil => simp [del]
  | cons x r ih =>
    unfold del
    split
    · rename_i hx
      rw [ih, List.mem_cons]
      constructor
      · exact fun h => ⟨.inr h.1, h.2⟩
      · rintro ⟨rfl | h, h2⟩
        · exact absurd hx h2
        · exact ⟨h, h2⟩
    · rename_i hx
      rw [List.mem_cons, List.mem_cons, ih]
      constructor
      · rintro (rfl | h)
        · exact ⟨.inl rfl, hx⟩
        · exact ⟨.inr h.1, h.2⟩
      · rintro ⟨rfl | h, h2⟩
        · exact .inl rfl
        · exact .inr ⟨h, h2⟩

theorem del_none {n : ByteArray} {fl : List Fi} (h : ∀ f ∈ fl, f.n ≠ n) : del n fl = fl := by
  induction fl with
  | nil => rfl
  | cons x r ih =>
    unfold del
    rw [if_neg (h x (List.mem_cons_self ..)), ih fun f hf => h f (List.mem_cons_of_mem _ hf)]

theorem del_perm {fl : List Fi} (h : fl.Pairwise Lt) {g : Fi} (hg : g ∈ fl) : fl.Perm (g :: del g.n fl) := by
  induction fl with
  | nil => cases hg
  | cons x r ih =>
    obtain ⟨h1, h2⟩ := List.pairwise_cons.1 h
    unfold del
    by_cases e : x.n = g.n
    · rw [if_pos e]
      have : x = g := uniq h (List.mem_cons_self ..) hg e
      subst this
      rw [del_none fun f hf => fun e => (h1 f hf).ne e.symm]
    · rw [if_neg e]
      have : g ∈ r := by
        rcases List.mem_cons.1 hg with rfl | hg
        · exact absurd rfl e
        · exact hg
      exact ((ih h2 this).cons x).trans (.swap ..)

theorem del_so {n : ByteArray} {fl : List Fi} (h : fl.Pairwise Lt) : (del n fl).Pairwise Lt := by
  induction fl with
  | nil => exact .nil
  | cons x r ih =>
    obtain ⟨h1, h2⟩ := List.pairwise_cons.1 h
    unfold del
    split
    · exact ih h2
    · exact List.pairwise_cons.2 ⟨fun y hy => h1 y (mem_del.1 hy).1, ih h2⟩

theorem ins_perm (f : Fi) : ∀ fl, (ins f fl).Perm (f :: fl)
  | [] => .refl _
  | x :: r => by
    unfold ins
    split
    · exact .refl _
    · exact ((ins_perm f r).cons x).trans (.swap ..)

theorem ins_so {f : Fi} {fl : List Fi} (h : fl.Pairwise Lt) (hn : ∀ g ∈ fl, g.n ≠ f.n) : (ins f fl).Pairwise Lt := by
  induction fl with
  | nil => exact List.pairwise_singleton ..
  | cons x r ih =>
    obtain ⟨h1, h2⟩ := List.pairwise_cons.1 h
    unfold ins
    split
    · rename_i hl
      refine List.pairwise_cons.2 ⟨fun y hy => ?_, h⟩
      rcases List.mem_cons.1 hy with rfl | hy
      · exact hl
      · exact List.lt_trans hl (h1 y hy)
    · rename_i hl
      refine List.pairwise_cons.2 ⟨fun y hy => ?_, ih h2 fun g hg => hn g (List.mem_cons_of_mem _ hg)⟩
      rcases List.mem_cons.1 ((ins_perm f r).mem_iff.1 hy) with rfl | hy
      · show x.n.data.toList < y.n.data.toList
        by_cases e : x.n.data.toList < y.n.data.toList
        · exact e
        · exact absurd (dat_inj (List.le_antisymm (List.not_lt.1 hl) (List.not_lt.1 e))) (hn x (List.mem_cons_self ..))
      · exact h1 y hy

theorem mem_put {f g : Fi} {fl : List Fi} : g ∈ put f fl ↔ g = f ∨ (g ∈ fl ∧ g.n ≠ f.n) := by
  unfold put
  rw [(ins_perm f _).mem_iff, List.mem_cons, mem_del]

theorem put_so {f : Fi} {fl : List Fi} (h : fl.Pairwise Lt) : (put f fl).Pairwise Lt := ins_so (del_so h) fun g hg => (mem_del.1 hg).2

theorem tot_perm {a b : List Fi} (h : a.Perm b) : tot a = tot b := (h.map _).sum_nat

theorem tot_cons (f : Fi) (fl : List Fi) : tot (f :: fl) = f.b.length + tot fl := rfl

theorem del_tot {n : ByteArray} (fl : List Fi) : tot (del n fl) ≤ tot fl ∧ (del n fl).length ≤ fl.length := by
  induction fl with
  | nil => exact ⟨Nat.le_refl _, Nat.le_refl _⟩
  | cons x r ih =>
    unfold del
    split
    · rw [tot_cons, List.length_cons]; omega
    · rw [tot_cons, tot_cons, List.length_cons, List.length_cons]; omega

theorem put_tot (f : Fi) (fl : List Fi) : tot (put f fl) = f.b.length + tot (del f.n fl) ∧ (put f fl).length = (del f.n fl).length + 1 :=
  ⟨by unfold put; rw [tot_perm (ins_perm f _)]; rfl, by unfold put; rw [(ins_perm f _).length_eq]; rfl⟩

/-- How many bytes a name has. -/
def lenOf (n : ByteArray) (fl : List Fi) : Nat := match lk n fl with | some f => f.b.length | none => 0

theorem tot_del {n : ByteArray} {fl : List Fi} (h : fl.Pairwise Lt) : tot fl = lenOf n fl + tot (del n fl) := by
  unfold lenOf
  cases e : lk n fl with
  | none => rw [del_none (lk_none e)]; simp
  | some f =>
    obtain ⟨h1, h2⟩ := lk_some e
    subst h2
    exact tot_perm (del_perm h h1)

theorem del_len {n : ByteArray} {fl : List Fi} {f : Fi} (h : fl.Pairwise Lt) (e : lk n fl = some f) : fl.length = (del n fl).length + 1 := by
  obtain ⟨h1, h2⟩ := lk_some e
  subst h2
  exact (del_perm h h1).length_eq

/-! A map that has the files. -/
section
variable {es : List (D × List D)} {fl : List Fi}

theorem Rep.key (h : Rep es fl) {n : ByteArray} (hn : lk n fl = none) : ∀ q ∈ es, D.eqKey (.str n) q.1 = false := by
  intro q hq
  obtain ⟨g, hg, rfl⟩ := List.mem_map.1 (h.mem_iff.1 hq)
  show D.eqKey (.str n) (.str g.n) = false
  rw [eqKey_str, decide_eq_false fun e => lk_none hn g hg e.symm]

theorem Rep.mem (h : Rep es fl) {f : Fi} (hf : f ∈ fl) : f.ent ∈ es := h.mem_iff.2 (List.mem_map_of_mem hf)

theorem Rep.has (h : Rep es fl) (n : ByteArray) : mhas es (.str n) = (lk n fl).isSome := by
  cases e : lk n fl with
  | none => exact mhas_none (h.key e)
  | some f =>
    obtain ⟨h1, rfl⟩ := lk_some e
    exact mhas_mem (h.mem h1) (by show D.eqKey (.str f.n) (.str f.n) = true; rw [eqKey_str, decide_eq_true rfl])

theorem Rep.get (h : Rep es fl) (hs : fl.Pairwise Lt) {n : ByteArray} {z : List D} {f : Fi} (e : lk n fl = some f) : mget es (.str n) z = [.row f.b, .int f.s] := by
  obtain ⟨h1, rfl⟩ := lk_some e
  refine mget_mem (p := f.ent) (fun q hq hk => ?_) (h.mem h1) (by show D.eqKey (.str f.n) (.str f.n) = true; rw [eqKey_str, decide_eq_true rfl])
  obtain ⟨g, hg, rfl⟩ := List.mem_map.1 (h.mem_iff.1 hq)
  have : D.eqKey (.str f.n) (.str g.n) = true := hk
  rw [eqKey_str] at this
  rw [uniq hs h1 hg (of_decide_eq_true this)]

theorem Rep.getn (h : Rep es fl) {n : ByteArray} {z : List D} (e : lk n fl = none) : mget es (.str n) z = z := mget_none (h.key e)

theorem Rep.del (h : Rep es fl) (hs : fl.Pairwise Lt) (n : ByteArray) : Rep (mdel es (.str n)) (V.del n fl) := by
  cases e : lk n fl with
  | none => rw [mdel_none (h.key e), del_none (lk_none e)]; exact h
  | some f =>
    obtain ⟨h1, rfl⟩ := lk_some e
    obtain ⟨q, hq, hk, hp⟩ := mdel_mem (h.mem h1) (show D.eqKey (.str f.n) f.ent.1 = true by show D.eqKey (.str f.n) (.str f.n) = true; rw [eqKey_str, decide_eq_true rfl])
    obtain ⟨g, hg, rfl⟩ := List.mem_map.1 (h.mem_iff.1 hq)
    have hk : D.eqKey (.str f.n) (.str g.n) = true := hk
    rw [eqKey_str] at hk
    have : f = g := uniq hs h1 hg (of_decide_eq_true hk)
    subst this
    have h2 : (fl.map Fi.ent).Perm (f.ent :: (V.del f.n fl).map Fi.ent) := (del_perm hs h1).map _
    exact List.Perm.cons_inv (hp.symm.trans ((show es.Perm (fl.map Fi.ent) from h).trans h2))

theorem Rep.put (h : Rep es fl) (hs : fl.Pairwise Lt) (f : Fi) : Rep (mput es (.str f.n) [.row f.b, .int f.s]) (V.put f fl) := by
  refine (mput_perm _ _ _).trans ?_
  refine ((h.del hs f.n).cons f.ent).trans ?_
  exact ((ins_perm f (V.del f.n fl)).map Fi.ent).symm

theorem leS_trans (a b c : ByteArray) (h1 : (!strLt b a) = true) (h2 : (!strLt c b) = true) : (!strLt c a) = true := by
  simp only [strLt_iff, Bool.not_eq_true', decide_eq_false_iff_not] at *
  exact List.not_lt.2 (List.le_trans (List.not_lt.1 h1) (List.not_lt.1 h2))

theorem leS_total (a b : ByteArray) (h : (!strLt b a) = false) : (!strLt a b) = true := by
  simp only [strLt_iff, Bool.not_eq_false', Bool.not_eq_true', decide_eq_false_iff_not, decide_eq_true_eq] at *
  exact List.lt_asymm h

theorem Rep.keys (h : Rep es fl) (hs : fl.Pairwise Lt) : keysD es = fl.map fun f => [D.str f.n] := by
  have e : es.map (·.1) = ((es.map (·.1)).map D.toStr).map D.str := by
    rw [List.map_map, List.map_map]
    refine List.map_congr_left fun q hq => ?_
    obtain ⟨g, hg, rfl⟩ := List.mem_map.1 (h.mem_iff.1 hq)
    rfl
  have hp : ((es.map (·.1)).map D.toStr).Perm (fl.map (·.n)) := by
    have := ((show es.Perm (fl.map Fi.ent) from h).map (·.1)).map D.toStr
    rw [List.map_map (l := fl), List.map_map (l := fl)] at this
    exact this
  unfold keysD
  rw [e, sortK_map D.str (fun a b => !strLt b a) keyLeD (fun a b => rfl)]
  have : sortK (fun a b => !strLt b a) ((es.map (·.1)).map D.toStr) = fl.map (·.n) := by
    refine List.Perm.eq_of_pairwise (le := fun a b => (!strLt b a) = true) (fun a b _ _ h1 h2 => ?_) (pair_sortK _ leS_trans leS_total _) ?_ ((perm_sortK _ _).trans hp)
    · simp only [strLt_iff, Bool.not_eq_true', decide_eq_false_iff_not] at h1 h2
      exact dat_inj (List.le_antisymm (List.not_lt.1 h1) (List.not_lt.1 h2))
    · refine List.pairwise_map.2 (hs.imp fun {f g} hfg => ?_)
      simp only [strLt_iff, Bool.not_eq_true', decide_eq_false_iff_not]
      exact List.lt_asymm hfg
  rw [this, List.map_map, List.map_map]
  rfl

theorem sumL_eq : ∀ es : List (D × List D), sumL es = (((es.map fun p => (cell 0 p.2).toRows.length).sum : Nat) : Int)
  | [] => rfl
  | p :: r => by unfold sumL; rw [sumL_eq r]; simp [ofN]

theorem Rep.used (h : Rep es fl) (g : Good fl) : usedD es = (tot fl : Nat) := by
  unfold usedD
  have e : sumL es = (tot fl : Nat) := by
    rw [sumL_eq, ((show es.Perm (fl.map Fi.ent) from h).map _).sum_nat, List.map_map]; rfl
  have := g.to
  rw [e, wrap_of (by omega) (by omega)]

theorem allKeys_of {f : D → Bool} : ∀ {es : List (D × List D)}, (∀ p ∈ es, f p.1 = true) → allKeys f es = true
  | [], _ => rfl
  | (a, v) :: r, h => by
    unfold allKeys
    rw [h (a, v) (List.mem_cons_self ..), allKeys_of fun p hp => h p (List.mem_cons_of_mem _ hp)]; rfl

theorem Rep.ok (h : Rep es fl) (g : Good fl) : keysOK es = true := by
  unfold keysOK
  have e : es.length = fl.length := by rw [(show es.Perm (fl.map Fi.ent) from h).length_eq, List.length_map]
  have := g.ln
  rw [allKeys_of (f := strKeyD) (fun p hp => ?_), e, decide_eq_true (by unfold maxBytes; omega)]; rfl
  obtain ⟨x, hx, rfl⟩ := List.mem_map.1 (h.mem_iff.1 hp)
  exact decide_eq_true (by have := g.nm x hx; show x.n.size ≤ maxBytes; unfold maxBytes; omega)
end

end Go.Proofs.Ytpaecfhgahheaaa.V

/- Printed by ugen: daisychain/disk.New -/
namespace Go.Proofs.Ytpaecfhgahheaaa.V
set_option maxRecDepth 100000
set_option maxHeartbeats 4000000

abbrev ft0 : List FT := [FT.row 1 [FT.int IntKind.u8], FT.int IntKind.i64]
abbrev ft1 : List FT := [FT.int IntKind.u8]
abbrev ft2 : List FT := [FT.row 1 [FT.int IntKind.u8]]

noncomputable def code11 : Code := match Try.f11.body with | some c => c | none => .skip

noncomputable def F11 {R : Type} (fu : Nat) (room : Int) (k0 : Int → Option R) : Option R :=
  (k0 (if 1048576 < if 0 > room then 0 else room then 1048576 else if 0 > room then 0 else room))

noncomputable def pc11 (fu : Nat) : Nat → Option ToldP := fun _ => none
noncomputable def t11 (fu : Nat) : ToldF := fun _ args s K => match args, s with
  | [.int .i64 room], [] => F11 fu room (fun o_ => K (.ptr 0 0) [.obj [.int .i64 o_, .map 1], .map .str true ft0 ([])])
  | _, _ => none

theorem e11 (R : Type) (K : UV → USt → Option R) (fu : Nat) (room : Int) :
    F11 fu room (fun o_ => K (.ptr 0 0) [.obj [.int .i64 o_, .map 1], .map .str true ft0 ([])]) = ufun Try.prog ⟨(tbX fu), pc11 fu⟩ 300 11 [.int .i64 room] [] (funK 0 [.gc] K) := by kernel_rfl

theorem s11 (fu : Nat) : Tells Try.prog 11 (t11 fu) := by
  refine ufun_sound (T := ⟨(tbX fu), pc11 fu⟩) (m := 0) (gout := [.gc]) (k := 300) (tbX_sound fu) (fun fn body hf hb => ?_) (fun R args s K r h => ?_) (fun R args s K r h => ?_)
  · have hc : body = code11 := by
      have h1 : Try.prog.funcs[11]? = some Try.f11 := rfl
      rw [h1] at hf; cases hf
      have h2 : Try.f11.body = some code11 := rfl
      rw [h2] at hb; cases hb; rfl
    subst hc
    exact SoundPc.none _ _ _
  · unfold t11 at h; split at h
    · rfl
    · cases h
  · unfold t11 at h; split at h
    case h_2 => cases h
    exact (e11 R K fu _).symm.trans h

noncomputable def tb11 (fu : Nat) : FuncId → Option (Bool × ToldF) := fun f => match Nat.beq f 11 with
  | true => some (false, ghG [] (t11 fu))
  | false => (tbX fu) f
theorem tb11_sound (fu : Nat) : SoundF' Try.prog (tb11 fu) := by
  intro f own told h
  unfold tb11 at h
  split at h
  · rename_i hb
    cases h
    have := Nat.eq_of_beq_eq_true hb
    subst this
    exact ghG_sound (s11 fu)
  · exact (tbX_sound fu) f own told h

end Go.Proofs.Ytpaecfhgahheaaa.V

/- Printed by ugen: daisychain/disk.named -/
namespace Go.Proofs.Ytpaecfhgahheaaa.V
set_option maxRecDepth 100000
set_option maxHeartbeats 4000000


noncomputable def code28 : Code := match Try.f28.body with | some c => c | none => .skip

noncomputable def F28 {R : Type} (fu : Nat) (name : ByteArray) (k0 : Bool → Option R) : Option R :=
  bif decide (1 ≤ ofN name.size) then bif decide (ofN name.size ≤ 32) then (k0 (!hasS name { data := #[10] })) else (k0 false) else (k0 false)

noncomputable def pc28 (fu : Nat) : Nat → Option ToldP := fun _ => none
noncomputable def t28 (fu : Nat) : ToldF := fun _ args s K => match args, s with
  | [.str name], [] => F28 fu name (fun o_ => K (.bool o_) [])
  | _, _ => none

theorem e28 (R : Type) (K : UV → USt → Option R) (fu : Nat) (name : ByteArray) :
    F28 fu name (fun o_ => K (.bool o_) []) = ufun Try.prog ⟨(tb11 fu), pc28 fu⟩ 300 28 [.str name] [] (funK 0 [.gc] K) := by kernel_rfl

theorem s28 (fu : Nat) : Tells Try.prog 28 (t28 fu) := by
  refine ufun_sound (T := ⟨(tb11 fu), pc28 fu⟩) (m := 0) (gout := [.gc]) (k := 300) (tb11_sound fu) (fun fn body hf hb => ?_) (fun R args s K r h => ?_) (fun R args s K r h => ?_)
  · have hc : body = code28 := by
      have h1 : Try.prog.funcs[28]? = some Try.f28 := rfl
      rw [h1] at hf; cases hf
      have h2 : Try.f28.body = some code28 := rfl
      rw [h2] at hb; cases hb; rfl
    subst hc
    exact SoundPc.none _ _ _
  · unfold t28 at h; split at h
    · rfl
    · cases h
  · unfold t28 at h; split at h
    case h_2 => cases h
    exact (e28 R K fu _).symm.trans h

noncomputable def tb28 (fu : Nat) : FuncId → Option (Bool × ToldF) := fun f => match Nat.beq f 28 with
  | true => some (false, ghG [] (t28 fu))
  | false => (tb11 fu) f
theorem tb28_sound (fu : Nat) : SoundF' Try.prog (tb28 fu) := by
  intro f own told h
  unfold tb28 at h
  split at h
  · rename_i hb
    cases h
    have := Nat.eq_of_beq_eq_true hb
    subst this
    exact ghG_sound (s28 fu)
  · exact (tb11_sound fu) f own told h

end Go.Proofs.Ytpaecfhgahheaaa.V

/- Printed by ugen: slices.Clone[[]byte,byte] -/
namespace Go.Proofs.Ytpaecfhgahheaaa.V
set_option maxRecDepth 100000
set_option maxHeartbeats 4000000


noncomputable def code30 : Code := match Try.f30.body with | some c => c | none => .skip

theorem s30 (fu : Nat) : Tells Try.prog 30 (toldClone ft1 1) :=
  clone_tells (F := (tb28 fu)) (k := 300) (tb28_sound fu) (fun R K => by kernel_rfl) (fun R K es => by kernel_rfl)

noncomputable def tb30 (fu : Nat) : FuncId → Option (Bool × ToldF) := fun f => match Nat.beq f 30 with
  | true => some (false, ghG [.fzP 0 [] ft1] (toldClone ft1 1))
  | false => (tb28 fu) f
theorem tb30_sound (fu : Nat) : SoundF' Try.prog (tb30 fu) := by
  intro f own told h
  unfold tb30 at h
  split at h
  · rename_i hb
    cases h
    have := Nat.eq_of_beq_eq_true hb
    subst this
    exact ghG_sound (s30 fu)
  · exact (tb28_sound fu) f own told h

end Go.Proofs.Ytpaecfhgahheaaa.V

/- Printed by ugen: slices.Concat[[]byte,byte] -/
namespace Go.Proofs.Ytpaecfhgahheaaa.V
set_option maxRecDepth 100000
set_option maxHeartbeats 4000000


noncomputable def code29 : Code := match Try.f29.body with | some c => c | none => .skip
theorem a29_58 : codeAt code29 58 = some (.loop (loopBody (codeAt code29 58))) := by kernel_rfl
noncomputable def F29_58 {R : Type} (fu : Nat) (x : List (List D)) (x1 : Int) : Nat → Int → Int → (Int → Option R) → Option R
  | 0, _, _, _ => none
  | n + 1, size, x2, k0 => bif decide (x2 < x1) then bif within x2 x.length then bif decide (IntKind.i64.wrap (size + ofN (cell 0 (elem x2.toNat x)).toRows.length) < 0) then none else (F29_58 fu x x1 n (IntKind.i64.wrap (size + ofN (cell 0 (elem x2.toNat x)).toRows.length)) (IntKind.i64.wrap (x2 + 1)) k0) else none else (k0 size)

noncomputable def t29_58 (fu n : Nat) : ToldP := fun _ e s K => match e, s with
  | [.fz zq0 slices false, .int .i64 size, .fz zq1 x false, .int .i64 x1, .int .i64 x2], [] => (match FT.sames zq0 ft2 with | true => (match FT.sames zq1 ft2 with | true => F29_58 fu x x1 n size x2 (fun o_ => K (.exit 0) (unpackM (bitsM 4 0x9) [.fz ft2 (slices) false, .int .i64 o_]) []) | false => none) | false => none)
  | _, _ => none

noncomputable def pc29_58 (fu : Nat) : Nat → Option ToldP := fun _ => none
theorem e29_58 (fu n : Nat) (R : Type) (K : VExit → UEnv → USt → Option R) (slices : List (List D)) (size : Int) (x : List (List D)) (x1 : Int) (x2 : Int) :
    F29_58 fu x x1 (n + 1) size x2 (fun o_ => K (.exit 0) (unpackM (bitsM 4 0x9) [.fz ft2 (slices) false, .int .i64 o_]) []) = uexec Try.prog (tb30 fu) 300 (pc29_58 fu) 116 (loopBody (codeAt code29 58)) (unpackM (bitsM 12 0xe09) [.fz ft2 slices false, .int .i64 size, .fz ft2 x false, .int .i64 x1, .int .i64 x2]) [] (loopK 0 [.live (bitsM 12 0xe09), .fzP 0 [] ft2, .fzP 9 [] ft2, .gc] [.live (bitsM 4 0xd), .gc] (pkP (bitsM 12 0xe09) (t29_58 fu n)) K) := by kernel_rfl

theorem p29_58 (fu : Nat) : SoundPc Try.prog 0 code29 (pc29_58 fu) := SoundPc.none _ _ _
theorem s29_58 (fu : Nat) : ∀ n, SoundP Try.prog 0 (.loop (loopBody (codeAt code29 58))) (pkP (bitsM 12 0xe09) (t29_58 fu n)) := by
  refine loopP_sound (gin := [.live (bitsM 12 0xe09), .fzP 0 [] ft2, .fzP 9 [] ft2, .gc]) (gout := [.live (bitsM 4 0xd), .gc]) (k := 300) (tb30_sound fu) (p29_58 fu) (by decide) a29_58 (fun R e s K => ?_) (fun n R e s K r h => ?_)
  · unfold t29_58; repeat' split
    all_goals rfl
  · unfold t29_58 at h; split at h
    case h_2 => cases h
    split at h
    case h_2 => cases h
    rename_i hq
    have hq := FT.sames_eq _ _ hq
    subst hq
    split at h
    case h_2 => cases h
    rename_i hq
    have hq := FT.sames_eq _ _ hq
    subst hq
    exact (e29_58 fu n R K _ _ _ _ _).symm.trans h

theorem a29_250 : codeAt code29 250 = some (.loop (loopBody (codeAt code29 250))) := by kernel_rfl
noncomputable def F29_250 {R : Type} (fu : Nat) (x : List (List D)) (x1 : Int) : Nat → Int → (List (List D)) → ((List (List D)) → Option R) → Option R
  | 0, _, _, _ => none
  | n + 1, x2, newslice, k0 => bif decide (x2 < x1) then bif within x2 x.length then bif fits (newslice.length + (cell 0 (elem x2.toNat x)).toRows.length) 1 then (F29_250 fu x x1 n (IntKind.i64.wrap (x2 + 1)) (newslice ++ (cell 0 (elem x2.toNat x)).toRows) k0) else none else none else (k0 newslice)

noncomputable def t29_250 (fu n : Nat) : ToldP := fun _ e s K => match e, s with
  | [.own 0, .fz zq0 x false, .int .i64 x1, .int .i64 x2], [.row zq1 newslice] => (match FT.sames zq0 ft2 with | true => (match FT.sames zq1 ft1 with | true => F29_250 fu x x1 n x2 newslice (fun o_ => K (.exit 2) (unpackM (bitsM 7 0x40) [.own 0]) [.row ft1 o_]) | false => none) | false => none)
  | _, _ => none

noncomputable def pc29_250 (fu : Nat) : Nat → Option ToldP := fun _ => none
theorem e29_250 (fu n : Nat) (R : Type) (K : VExit → UEnv → USt → Option R) (x : List (List D)) (x1 : Int) (x2 : Int) (newslice : List (List D)) :
    F29_250 fu x x1 (n + 1) x2 newslice (fun o_ => K (.exit 2) (unpackM (bitsM 7 0x40) [.own 0]) [.row ft1 o_]) = uexec Try.prog (tb30 fu) 300 (pc29_250 fu) 500 (loopBody (codeAt code29 250)) (unpackM (bitsM 28 0xe000040) [.own 0, .fz ft2 x false, .int .i64 x1, .int .i64 x2]) [.row ft1 newslice] (loopK 0 [.live (bitsM 28 0xe000040), .ownP 6 [] ft1, .fzP 25 [] ft2, .gc] [.live (bitsM 7 0x44), .gc] (pkP (bitsM 28 0xe000040) (t29_250 fu n)) K) := by kernel_rfl

theorem p29_250 (fu : Nat) : SoundPc Try.prog 0 code29 (pc29_250 fu) := SoundPc.none _ _ _
theorem s29_250 (fu : Nat) : ∀ n, SoundP Try.prog 0 (.loop (loopBody (codeAt code29 250))) (pkP (bitsM 28 0xe000040) (t29_250 fu n)) := by
  refine loopP_sound (gin := [.live (bitsM 28 0xe000040), .ownP 6 [] ft1, .fzP 25 [] ft2, .gc]) (gout := [.live (bitsM 7 0x44), .gc]) (k := 300) (tb30_sound fu) (p29_250 fu) (by decide) a29_250 (fun R e s K => ?_) (fun n R e s K r h => ?_)
  · unfold t29_250; repeat' split
    all_goals rfl
  · unfold t29_250 at h; split at h
    case h_2 => cases h
    split at h
    case h_2 => cases h
    rename_i hq
    have hq := FT.sames_eq _ _ hq
    subst hq
    split at h
    case h_2 => cases h
    rename_i hq
    have hq := FT.sames_eq _ _ hq
    subst hq
    exact (e29_250 fu n R K _ _ _ _).symm.trans h


noncomputable def F29 {R : Type} (fu : Nat) (slices : List (List D)) (k0 : (List (List D)) → Option R) : Option R :=
  F29_58 fu slices (ofN slices.length) fu 0 0 fun o_0 => bif roomN o_0 1 then F29_250 fu slices (ofN slices.length) fu 0 [] fun o_1 => (k0 o_1) else none

noncomputable def pc29 (fu : Nat) : Nat → Option ToldP := fun p => match Nat.beq p 58 with | true => some (ghP 0 [.live (bitsM 12 0xe09), .fzP 0 [] ft2, .fzP 9 [] ft2, .gc] (pkP (bitsM 12 0xe09) (t29_58 fu fu))) | false => match Nat.beq p 250 with | true => some (ghP 0 [.live (bitsM 28 0xe000040), .ownP 6 [] ft1, .fzP 25 [] ft2, .gc] (pkP (bitsM 28 0xe000040) (t29_250 fu fu))) | false => none
noncomputable def t29 (fu : Nat) : ToldF := fun _ args s K => match args, s with
  | [.fz zq0 slices false], [] => (match FT.sames zq0 ft2 with | true => F29 fu slices (fun o_ => K (.own 0) [.row ft1 o_]) | false => none)
  | _, _ => none

theorem e29 (R : Type) (K : UV → USt → Option R) (fu : Nat) (slices : List (List D)) :
    F29 fu slices (fun o_ => K (.own 0) [.row ft1 o_]) = ufun Try.prog ⟨(tb30 fu), pc29 fu⟩ 300 29 [.fz ft2 slices false] [] (funK 0 [.gc] K) := by kernel_rfl

theorem s29 (fu : Nat) : Tells Try.prog 29 (t29 fu) := by
  refine ufun_sound (T := ⟨(tb30 fu), pc29 fu⟩) (m := 0) (gout := [.gc]) (k := 300) (tb30_sound fu) (fun fn body hf hb => ?_) (fun R args s K r h => ?_) (fun R args s K r h => ?_)
  · have hc : body = code29 := by
      have h1 : Try.prog.funcs[29]? = some Try.f29 := rfl
      rw [h1] at hf; cases hf
      have h2 : Try.f29.body = some code29 := rfl
      rw [h2] at hb; cases hb; rfl
    subst hc
    exact fun p told h b hb => by
      replace h : pc29 fu p = some told := h
      unfold pc29 at h
      split at h
      · rename_i hp
        cases h
        have := Nat.eq_of_beq_eq_true hp
        subst this
        rw [a29_58] at hb
        cases hb
        exact ghP_sound (s29_58 fu _)
      ·
        split at h
        · rename_i hp
          cases h
          have := Nat.eq_of_beq_eq_true hp
          subst this
          rw [a29_250] at hb
          cases hb
          exact ghP_sound (s29_250 fu _)
        ·
          cases h

  · unfold t29 at h; split at h
    · rfl
    · cases h
  · unfold t29 at h; split at h
    case h_2 => cases h
    split at h
    case h_2 => cases h
    rename_i hq
    have hq := FT.sames_eq _ _ hq
    subst hq
    exact (e29 R K fu _).symm.trans h

noncomputable def tb29 (fu : Nat) : FuncId → Option (Bool × ToldF) := fun f => match Nat.beq f 29 with
  | true => some (false, ghG [.fzP 0 [] ft2] (t29 fu))
  | false => (tb30 fu) f
theorem tb29_sound (fu : Nat) : SoundF' Try.prog (tb29 fu) := by
  intro f own told h
  unfold tb29 at h
  split at h
  · rename_i hb
    cases h
    have := Nat.eq_of_beq_eq_true hb
    subst this
    exact ghG_sound (s29 fu)
  · exact (tb30_sound fu) f own told h

end Go.Proofs.Ytpaecfhgahheaaa.V

/- Printed by ugen: (*daisychain/disk.Disk).Append -/
namespace Go.Proofs.Ytpaecfhgahheaaa.V
set_option maxRecDepth 100000
set_option maxHeartbeats 4000000

abbrev ft3 : List FT := [FT.int IntKind.i64]
abbrev ft4 : List FT := [FT.str]
abbrev ft5 : List FT := [FT.str, FT.row 1 [FT.int IntKind.u8], FT.int IntKind.i64]
abbrev ft6 : List FT := [FT.int IntKind.i64, FT.row 48 [FT.str, FT.row 1 [FT.int IntKind.u8], FT.int IntKind.i64]]
abbrev ft7 : List FT := [FT.int IntKind.i64, FT.str, FT.str, FT.row 1 [FT.int IntKind.u8], FT.int IntKind.i64, FT.row 8 [FT.int IntKind.i64]]

noncomputable def code12 : Code := match Try.f12.body with | some c => c | none => .skip

noncomputable def Fb12 {R : Type} (fu : Nat) (name : ByteArray) (b : List (List D)) (d_room : Int) (d_files : List (D × List D)) (k0 : Int → (List (D × List D)) → Option R) : Option R :=
  F28 fu name fun o_0 => bif !o_0 then (k0 1 d_files) else bif keysOK d_files then bif decide (IntKind.i64.wrap (d_room - usedD d_files) < ofN b.length) then (k0 5 d_files) else F29 fu [[D.row (cell 0 (mget d_files (D.str name) [D.nil, D.int 0])).toRows], [D.row b]] fun o_1 => (k0 0 (mput d_files (D.str name) [D.row o_1, D.int (cell 1 (mget d_files (D.str name) [D.nil, D.int 0])).toInt])) else none

noncomputable def F12 {R : Type} (fu : Nat) (name : ByteArray) (b : List (List D)) (d_room : Int) (d_files : List (D × List D)) (k0 : Int → (List (D × List D)) → Option R) : Option R := shut (@Fb12 R) fu name b d_room d_files k0
theorem F12_eq {R : Type} (fu : Nat) (name : ByteArray) (b : List (List D)) (d_room : Int) (d_files : List (D × List D)) (k0 : Int → (List (D × List D)) → Option R) : F12 fu name b d_room d_files k0 = Fb12 fu name b d_room d_files k0 := by unfold F12; rw [shut_eq]

noncomputable def pc12 (fu : Nat) : Nat → Option ToldP := fun _ => none
noncomputable def t12 (fu : Nat) : ToldF := fun _ args s K => match args, s with
  | [.ptr 0 0, .str name, .fz zq0 b false], [.obj [.int .i64 d_room, .map 1], .map .str true zq1 d_files] => (match FT.sames zq0 ft1 with | true => (match FT.sames zq1 ft0 with | true => F12 fu name b d_room d_files (fun o_ o_1 => K (.int .i64 o_) [.obj [.int .i64 (d_room), .map 1], .map .str true ft0 o_1]) | false => none) | false => none)
  | _, _ => none

theorem e12 (R : Type) (K : UV → USt → Option R) (fu : Nat) (name : ByteArray) (b : List (List D)) (d_room : Int) (d_files : List (D × List D)) :
    F12 fu name b d_room d_files (fun o_ o_1 => K (.int .i64 o_) [.obj [.int .i64 (d_room), .map 1], .map .str true ft0 o_1]) = ufun Try.prog ⟨(tb29 fu), pc12 fu⟩ 300 12 [.ptr 0 0, .str name, .fz ft1 b false] [.obj [.int .i64 d_room, .map 1], .map .str true ft0 d_files] (funK 2 [.gc] K) := (F12_eq fu _ _ _ _ _).trans (by kernel_rfl)

theorem s12 (fu : Nat) : Tells Try.prog 12 (t12 fu) := by
  refine ufun_sound (T := ⟨(tb29 fu), pc12 fu⟩) (m := 2) (gout := [.gc]) (k := 300) (tb29_sound fu) (fun fn body hf hb => ?_) (fun R args s K r h => ?_) (fun R args s K r h => ?_)
  · have hc : body = code12 := by
      have h1 : Try.prog.funcs[12]? = some Try.f12 := rfl
      rw [h1] at hf; cases hf
      have h2 : Try.f12.body = some code12 := rfl
      rw [h2] at hb; cases hb; rfl
    subst hc
    exact SoundPc.none _ _ _
  · unfold t12 at h; split at h
    · rfl
    · cases h
  · unfold t12 at h; split at h
    case h_2 => cases h
    split at h
    case h_2 => cases h
    rename_i hq
    have hq := FT.sames_eq _ _ hq
    subst hq
    split at h
    case h_2 => cases h
    rename_i hq
    have hq := FT.sames_eq _ _ hq
    subst hq
    exact (e12 R K fu _ _ _ _).symm.trans h

noncomputable def tb12 (fu : Nat) : FuncId → Option (Bool × ToldF) := fun f => match Nat.beq f 12 with
  | true => some (false, ghG [.fzP 2 [] ft1, .gc, .gc] (t12 fu))
  | false => (tb29 fu) f
theorem tb12_sound (fu : Nat) : SoundF' Try.prog (tb12 fu) := by
  intro f own told h
  unfold tb12 at h
  split at h
  · rename_i hb
    cases h
    have := Nat.eq_of_beq_eq_true hb
    subst this
    exact ghG_sound (s12 fu)
  · exact (tb29_sound fu) f own told h

end Go.Proofs.Ytpaecfhgahheaaa.V

/- Printed by ugen: (*daisychain/disk.Disk).Loose -/
namespace Go.Proofs.Ytpaecfhgahheaaa.V
set_option maxRecDepth 100000
set_option maxHeartbeats 4000000


noncomputable def code15 : Code := match Try.f15.body with | some c => c | none => .skip

noncomputable def Fb15 {R : Type} (fu : Nat) (name : ByteArray) (d_room : Int) (d_files : List (D × List D)) (k0 : Int → Option R) : Option R :=
  (k0 (IntKind.i64.wrap (ofN (cell 0 (mget d_files (D.str name) [D.nil, D.int 0])).toRows.length - (cell 1 (mget d_files (D.str name) [D.nil, D.int 0])).toInt)))

noncomputable def F15 {R : Type} (fu : Nat) (name : ByteArray) (d_room : Int) (d_files : List (D × List D)) (k0 : Int → Option R) : Option R := shut (@Fb15 R) fu name d_room d_files k0
theorem F15_eq {R : Type} (fu : Nat) (name : ByteArray) (d_room : Int) (d_files : List (D × List D)) (k0 : Int → Option R) : F15 fu name d_room d_files k0 = Fb15 fu name d_room d_files k0 := by unfold F15; rw [shut_eq]

noncomputable def pc15 (fu : Nat) : Nat → Option ToldP := fun _ => none
noncomputable def t15 (fu : Nat) : ToldF := fun _ args s K => match args, s with
  | [.ptr 0 0, .str name], [.obj [.int .i64 d_room, .map 1], .map .str true zq0 d_files] => (match FT.sames zq0 ft0 with | true => F15 fu name d_room d_files (fun o_ => K (.int .i64 o_) [.obj [.int .i64 (d_room), .map 1], .map .str true ft0 (d_files)]) | false => none)
  | _, _ => none

theorem e15 (R : Type) (K : UV → USt → Option R) (fu : Nat) (name : ByteArray) (d_room : Int) (d_files : List (D × List D)) :
    F15 fu name d_room d_files (fun o_ => K (.int .i64 o_) [.obj [.int .i64 (d_room), .map 1], .map .str true ft0 (d_files)]) = ufun Try.prog ⟨(tb12 fu), pc15 fu⟩ 300 15 [.ptr 0 0, .str name] [.obj [.int .i64 d_room, .map 1], .map .str true ft0 d_files] (funK 2 [.gc] K) := (F15_eq fu _ _ _ _).trans (by kernel_rfl)

theorem s15 (fu : Nat) : Tells Try.prog 15 (t15 fu) := by
  refine ufun_sound (T := ⟨(tb12 fu), pc15 fu⟩) (m := 2) (gout := [.gc]) (k := 300) (tb12_sound fu) (fun fn body hf hb => ?_) (fun R args s K r h => ?_) (fun R args s K r h => ?_)
  · have hc : body = code15 := by
      have h1 : Try.prog.funcs[15]? = some Try.f15 := rfl
      rw [h1] at hf; cases hf
      have h2 : Try.f15.body = some code15 := rfl
      rw [h2] at hb; cases hb; rfl
    subst hc
    exact SoundPc.none _ _ _
  · unfold t15 at h; split at h
    · rfl
    · cases h
  · unfold t15 at h; split at h
    case h_2 => cases h
    split at h
    case h_2 => cases h
    rename_i hq
    have hq := FT.sames_eq _ _ hq
    subst hq
    exact (e15 R K fu _ _ _).symm.trans h

noncomputable def tb15 (fu : Nat) : FuncId → Option (Bool × ToldF) := fun f => match Nat.beq f 15 with
  | true => some (false, ghG [.gc, .gc] (t15 fu))
  | false => (tb12 fu) f
theorem tb15_sound (fu : Nat) : SoundF' Try.prog (tb15 fu) := by
  intro f own told h
  unfold tb15 at h
  split at h
  · rename_i hb
    cases h
    have := Nat.eq_of_beq_eq_true hb
    subst this
    exact ghG_sound (s15 fu)
  · exact (tb12_sound fu) f own told h

end Go.Proofs.Ytpaecfhgahheaaa.V

/- Printed by ugen: (*daisychain/disk.Disk).Sync -/
namespace Go.Proofs.Ytpaecfhgahheaaa.V
set_option maxRecDepth 100000
set_option maxHeartbeats 4000000


noncomputable def code27 : Code := match Try.f27.body with | some c => c | none => .skip

noncomputable def Fb27 {R : Type} (fu : Nat) (name : ByteArray) (d_room : Int) (d_files : List (D × List D)) (k0 : Int → (List (D × List D)) → Option R) : Option R :=
  bif !mhas d_files (D.str name) then (k0 6 d_files) else (k0 0 (mput d_files (D.str name) [D.row (cell 0 (mget d_files (D.str name) [D.nil, D.int 0])).toRows, D.int (ofN (cell 0 (mget d_files (D.str name) [D.nil, D.int 0])).toRows.length)]))

noncomputable def F27 {R : Type} (fu : Nat) (name : ByteArray) (d_room : Int) (d_files : List (D × List D)) (k0 : Int → (List (D × List D)) → Option R) : Option R := shut (@Fb27 R) fu name d_room d_files k0
theorem F27_eq {R : Type} (fu : Nat) (name : ByteArray) (d_room : Int) (d_files : List (D × List D)) (k0 : Int → (List (D × List D)) → Option R) : F27 fu name d_room d_files k0 = Fb27 fu name d_room d_files k0 := by unfold F27; rw [shut_eq]

noncomputable def pc27 (fu : Nat) : Nat → Option ToldP := fun _ => none
noncomputable def t27 (fu : Nat) : ToldF := fun _ args s K => match args, s with
  | [.ptr 0 0, .str name], [.obj [.int .i64 d_room, .map 1], .map .str true zq0 d_files] => (match FT.sames zq0 ft0 with | true => F27 fu name d_room d_files (fun o_ o_1 => K (.int .i64 o_) [.obj [.int .i64 (d_room), .map 1], .map .str true ft0 o_1]) | false => none)
  | _, _ => none

theorem e27 (R : Type) (K : UV → USt → Option R) (fu : Nat) (name : ByteArray) (d_room : Int) (d_files : List (D × List D)) :
    F27 fu name d_room d_files (fun o_ o_1 => K (.int .i64 o_) [.obj [.int .i64 (d_room), .map 1], .map .str true ft0 o_1]) = ufun Try.prog ⟨(tb15 fu), pc27 fu⟩ 300 27 [.ptr 0 0, .str name] [.obj [.int .i64 d_room, .map 1], .map .str true ft0 d_files] (funK 2 [.gc] K) := (F27_eq fu _ _ _ _).trans (by kernel_rfl)

theorem s27 (fu : Nat) : Tells Try.prog 27 (t27 fu) := by
  refine ufun_sound (T := ⟨(tb15 fu), pc27 fu⟩) (m := 2) (gout := [.gc]) (k := 300) (tb15_sound fu) (fun fn body hf hb => ?_) (fun R args s K r h => ?_) (fun R args s K r h => ?_)
  · have hc : body = code27 := by
      have h1 : Try.prog.funcs[27]? = some Try.f27 := rfl
      rw [h1] at hf; cases hf
      have h2 : Try.f27.body = some code27 := rfl
      rw [h2] at hb; cases hb; rfl
    subst hc
    exact SoundPc.none _ _ _
  · unfold t27 at h; split at h
    · rfl
    · cases h
  · unfold t27 at h; split at h
    case h_2 => cases h
    split at h
    case h_2 => cases h
    rename_i hq
    have hq := FT.sames_eq _ _ hq
    subst hq
    exact (e27 R K fu _ _ _).symm.trans h

noncomputable def tb27 (fu : Nat) : FuncId → Option (Bool × ToldF) := fun f => match Nat.beq f 27 with
  | true => some (false, ghG [.gc, .gc] (t27 fu))
  | false => (tb15 fu) f
theorem tb27_sound (fu : Nat) : SoundF' Try.prog (tb27 fu) := by
  intro f own told h
  unfold tb27 at h
  split at h
  · rename_i hb
    cases h
    have := Nat.eq_of_beq_eq_true hb
    subst this
    exact ghG_sound (s27 fu)
  · exact (tb15_sound fu) f own told h

end Go.Proofs.Ytpaecfhgahheaaa.V

/- Printed by ugen: (*daisychain/disk.Disk).Cut -/
namespace Go.Proofs.Ytpaecfhgahheaaa.V
set_option maxRecDepth 100000
set_option maxHeartbeats 4000000


noncomputable def code14 : Code := match Try.f14.body with | some c => c | none => .skip

noncomputable def Fb14 {R : Type} (fu : Nat) (name : ByteArray) (n_ : Int) (d_room : Int) (d_files : List (D × List D)) (k0 : Int → (List (D × List D)) → Option R) : Option R :=
  bif !mhas d_files (D.str name) then (k0 6 d_files) else bif decide (n_ < 0) then (k0 1 d_files) else bif decide (ofN (cell 0 (mget d_files (D.str name) [D.nil, D.int 0])).toRows.length < n_) then (k0 1 d_files) else bif decide (n_ = 0) && decide (n_ = 0) then (k0 0 (mput d_files (D.str name) [D.row [], D.int n_])) else bif decide ((0 : Int) ≤ 0 ∧ 0 ≤ n_) && upTo n_ (cell 0 (mget d_files (D.str name) [D.nil, D.int 0])).toRows.length && decide (n_ = n_) then (k0 0 (mput d_files (D.str name) [D.row (part (cell 0 (mget d_files (D.str name) [D.nil, D.int 0])).toRows 0 n_.toNat), D.int n_])) else none

noncomputable def F14 {R : Type} (fu : Nat) (name : ByteArray) (n_ : Int) (d_room : Int) (d_files : List (D × List D)) (k0 : Int → (List (D × List D)) → Option R) : Option R := shut (@Fb14 R) fu name n_ d_room d_files k0
theorem F14_eq {R : Type} (fu : Nat) (name : ByteArray) (n_ : Int) (d_room : Int) (d_files : List (D × List D)) (k0 : Int → (List (D × List D)) → Option R) : F14 fu name n_ d_room d_files k0 = Fb14 fu name n_ d_room d_files k0 := by unfold F14; rw [shut_eq]

noncomputable def pc14 (fu : Nat) : Nat → Option ToldP := fun _ => none
noncomputable def t14 (fu : Nat) : ToldF := fun _ args s K => match args, s with
  | [.ptr 0 0, .str name, .int .i64 n_], [.obj [.int .i64 d_room, .map 1], .map .str true zq0 d_files] => (match FT.sames zq0 ft0 with | true => F14 fu name n_ d_room d_files (fun o_ o_1 => K (.int .i64 o_) [.obj [.int .i64 (d_room), .map 1], .map .str true ft0 o_1]) | false => none)
  | _, _ => none

theorem e14 (R : Type) (K : UV → USt → Option R) (fu : Nat) (name : ByteArray) (n_ : Int) (d_room : Int) (d_files : List (D × List D)) :
    F14 fu name n_ d_room d_files (fun o_ o_1 => K (.int .i64 o_) [.obj [.int .i64 (d_room), .map 1], .map .str true ft0 o_1]) = ufun Try.prog ⟨(tb27 fu), pc14 fu⟩ 300 14 [.ptr 0 0, .str name, .int .i64 n_] [.obj [.int .i64 d_room, .map 1], .map .str true ft0 d_files] (funK 2 [.gc] K) := (F14_eq fu _ _ _ _ _).trans (by kernel_rfl)

theorem s14 (fu : Nat) : Tells Try.prog 14 (t14 fu) := by
  refine ufun_sound (T := ⟨(tb27 fu), pc14 fu⟩) (m := 2) (gout := [.gc]) (k := 300) (tb27_sound fu) (fun fn body hf hb => ?_) (fun R args s K r h => ?_) (fun R args s K r h => ?_)
  · have hc : body = code14 := by
      have h1 : Try.prog.funcs[14]? = some Try.f14 := rfl
      rw [h1] at hf; cases hf
      have h2 : Try.f14.body = some code14 := rfl
      rw [h2] at hb; cases hb; rfl
    subst hc
    exact SoundPc.none _ _ _
  · unfold t14 at h; split at h
    · rfl
    · cases h
  · unfold t14 at h; split at h
    case h_2 => cases h
    split at h
    case h_2 => cases h
    rename_i hq
    have hq := FT.sames_eq _ _ hq
    subst hq
    exact (e14 R K fu _ _ _ _).symm.trans h

noncomputable def tb14 (fu : Nat) : FuncId → Option (Bool × ToldF) := fun f => match Nat.beq f 14 with
  | true => some (false, ghG [.gc, .gc] (t14 fu))
  | false => (tb27 fu) f
theorem tb14_sound (fu : Nat) : SoundF' Try.prog (tb14 fu) := by
  intro f own told h
  unfold tb14 at h
  split at h
  · rename_i hb
    cases h
    have := Nat.eq_of_beq_eq_true hb
    subst this
    exact ghG_sound (s14 fu)
  · exact (tb27_sound fu) f own told h

end Go.Proofs.Ytpaecfhgahheaaa.V

/- Printed by ugen: (*daisychain/disk.Disk).Remove -/
namespace Go.Proofs.Ytpaecfhgahheaaa.V
set_option maxRecDepth 100000
set_option maxHeartbeats 4000000


noncomputable def code39 : Code := match Try.f39.body with | some c => c | none => .skip

noncomputable def Fb39 {R : Type} (fu : Nat) (name : ByteArray) (d_room : Int) (d_files : List (D × List D)) (k0 : Int → (List (D × List D)) → Option R) : Option R :=
  bif !mhas d_files (D.str name) then (k0 6 d_files) else (k0 0 (mdel d_files (D.str name)))

noncomputable def F39 {R : Type} (fu : Nat) (name : ByteArray) (d_room : Int) (d_files : List (D × List D)) (k0 : Int → (List (D × List D)) → Option R) : Option R := shut (@Fb39 R) fu name d_room d_files k0
theorem F39_eq {R : Type} (fu : Nat) (name : ByteArray) (d_room : Int) (d_files : List (D × List D)) (k0 : Int → (List (D × List D)) → Option R) : F39 fu name d_room d_files k0 = Fb39 fu name d_room d_files k0 := by unfold F39; rw [shut_eq]

noncomputable def pc39 (fu : Nat) : Nat → Option ToldP := fun _ => none
noncomputable def t39 (fu : Nat) : ToldF := fun _ args s K => match args, s with
  | [.ptr 0 0, .str name], [.obj [.int .i64 d_room, .map 1], .map .str true zq0 d_files] => (match FT.sames zq0 ft0 with | true => F39 fu name d_room d_files (fun o_ o_1 => K (.int .i64 o_) [.obj [.int .i64 (d_room), .map 1], .map .str true ft0 o_1]) | false => none)
  | _, _ => none

theorem e39 (R : Type) (K : UV → USt → Option R) (fu : Nat) (name : ByteArray) (d_room : Int) (d_files : List (D × List D)) :
    F39 fu name d_room d_files (fun o_ o_1 => K (.int .i64 o_) [.obj [.int .i64 (d_room), .map 1], .map .str true ft0 o_1]) = ufun Try.prog ⟨(tb14 fu), pc39 fu⟩ 300 39 [.ptr 0 0, .str name] [.obj [.int .i64 d_room, .map 1], .map .str true ft0 d_files] (funK 2 [.gc] K) := (F39_eq fu _ _ _ _).trans (by kernel_rfl)

theorem s39 (fu : Nat) : Tells Try.prog 39 (t39 fu) := by
  refine ufun_sound (T := ⟨(tb14 fu), pc39 fu⟩) (m := 2) (gout := [.gc]) (k := 300) (tb14_sound fu) (fun fn body hf hb => ?_) (fun R args s K r h => ?_) (fun R args s K r h => ?_)
  · have hc : body = code39 := by
      have h1 : Try.prog.funcs[39]? = some Try.f39 := rfl
      rw [h1] at hf; cases hf
      have h2 : Try.f39.body = some code39 := rfl
      rw [h2] at hb; cases hb; rfl
    subst hc
    exact SoundPc.none _ _ _
  · unfold t39 at h; split at h
    · rfl
    · cases h
  · unfold t39 at h; split at h
    case h_2 => cases h
    split at h
    case h_2 => cases h
    rename_i hq
    have hq := FT.sames_eq _ _ hq
    subst hq
    exact (e39 R K fu _ _ _).symm.trans h

noncomputable def tb39 (fu : Nat) : FuncId → Option (Bool × ToldF) := fun f => match Nat.beq f 39 with
  | true => some (false, ghG [.gc, .gc] (t39 fu))
  | false => (tb14 fu) f
theorem tb39_sound (fu : Nat) : SoundF' Try.prog (tb39 fu) := by
  intro f own told h
  unfold tb39 at h
  split at h
  · rename_i hb
    cases h
    have := Nat.eq_of_beq_eq_true hb
    subst this
    exact ghG_sound (s39 fu)
  · exact (tb14_sound fu) f own told h

end Go.Proofs.Ytpaecfhgahheaaa.V

/- Printed by ugen: (*daisychain/disk.Disk).Rename -/
namespace Go.Proofs.Ytpaecfhgahheaaa.V
set_option maxRecDepth 100000
set_option maxHeartbeats 4000000


noncomputable def code19 : Code := match Try.f19.body with | some c => c | none => .skip

noncomputable def Fb19 {R : Type} (fu : Nat) (from_ : ByteArray) (to : ByteArray) (d_room : Int) (d_files : List (D × List D)) (k0 : Int → (List (D × List D)) → Option R) : Option R :=
  bif !mhas d_files (D.str from_) then (k0 6 d_files) else F28 fu to fun o_0 => bif !o_0 then (k0 1 d_files) else bif !strEq from_ to then (k0 0 (mput (mdel d_files (D.str from_)) (D.str to) [D.row (cell 0 (mget d_files (D.str from_) [D.nil, D.int 0])).toRows, D.int (ofN (cell 0 (mget d_files (D.str from_) [D.nil, D.int 0])).toRows.length)])) else (k0 0 d_files)

noncomputable def F19 {R : Type} (fu : Nat) (from_ : ByteArray) (to : ByteArray) (d_room : Int) (d_files : List (D × List D)) (k0 : Int → (List (D × List D)) → Option R) : Option R := shut (@Fb19 R) fu from_ to d_room d_files k0
theorem F19_eq {R : Type} (fu : Nat) (from_ : ByteArray) (to : ByteArray) (d_room : Int) (d_files : List (D × List D)) (k0 : Int → (List (D × List D)) → Option R) : F19 fu from_ to d_room d_files k0 = Fb19 fu from_ to d_room d_files k0 := by unfold F19; rw [shut_eq]

noncomputable def pc19 (fu : Nat) : Nat → Option ToldP := fun _ => none
noncomputable def t19 (fu : Nat) : ToldF := fun _ args s K => match args, s with
  | [.ptr 0 0, .str from_, .str to], [.obj [.int .i64 d_room, .map 1], .map .str true zq0 d_files] => (match FT.sames zq0 ft0 with | true => F19 fu from_ to d_room d_files (fun o_ o_1 => K (.int .i64 o_) [.obj [.int .i64 (d_room), .map 1], .map .str true ft0 o_1]) | false => none)
  | _, _ => none

theorem e19 (R : Type) (K : UV → USt → Option R) (fu : Nat) (from_ : ByteArray) (to : ByteArray) (d_room : Int) (d_files : List (D × List D)) :
    F19 fu from_ to d_room d_files (fun o_ o_1 => K (.int .i64 o_) [.obj [.int .i64 (d_room), .map 1], .map .str true ft0 o_1]) = ufun Try.prog ⟨(tb39 fu), pc19 fu⟩ 300 19 [.ptr 0 0, .str from_, .str to] [.obj [.int .i64 d_room, .map 1], .map .str true ft0 d_files] (funK 2 [.gc] K) := (F19_eq fu _ _ _ _ _).trans (by kernel_rfl)

theorem s19 (fu : Nat) : Tells Try.prog 19 (t19 fu) := by
  refine ufun_sound (T := ⟨(tb39 fu), pc19 fu⟩) (m := 2) (gout := [.gc]) (k := 300) (tb39_sound fu) (fun fn body hf hb => ?_) (fun R args s K r h => ?_) (fun R args s K r h => ?_)
  · have hc : body = code19 := by
      have h1 : Try.prog.funcs[19]? = some Try.f19 := rfl
      rw [h1] at hf; cases hf
      have h2 : Try.f19.body = some code19 := rfl
      rw [h2] at hb; cases hb; rfl
    subst hc
    exact SoundPc.none _ _ _
  · unfold t19 at h; split at h
    · rfl
    · cases h
  · unfold t19 at h; split at h
    case h_2 => cases h
    split at h
    case h_2 => cases h
    rename_i hq
    have hq := FT.sames_eq _ _ hq
    subst hq
    exact (e19 R K fu _ _ _ _).symm.trans h

noncomputable def tb19 (fu : Nat) : FuncId → Option (Bool × ToldF) := fun f => match Nat.beq f 19 with
  | true => some (false, ghG [.gc, .gc] (t19 fu))
  | false => (tb39 fu) f
theorem tb19_sound (fu : Nat) : SoundF' Try.prog (tb19 fu) := by
  intro f own told h
  unfold tb19 at h
  split at h
  · rename_i hb
    cases h
    have := Nat.eq_of_beq_eq_true hb
    subst this
    exact ghG_sound (s19 fu)
  · exact (tb39_sound fu) f own told h

end Go.Proofs.Ytpaecfhgahheaaa.V

/- Printed by ugen: (*daisychain/disk.Disk).Read -/
namespace Go.Proofs.Ytpaecfhgahheaaa.V
set_option maxRecDepth 100000
set_option maxHeartbeats 4000000


noncomputable def code16 : Code := match Try.f16.body with | some c => c | none => .skip

noncomputable def Fb16 {R : Type} (fu : Nat) (name : ByteArray) (d_room : Int) (d_files : List (D × List D)) (k0 : Int → (List (List D)) → Option R) : Option R :=
  bif !mhas d_files (D.str name) then (k0 6 []) else bif fits (cell 0 (mget d_files (D.str name) [D.nil, D.int 0])).toRows.length 1 then (k0 0 ((cell 0 (mget d_files (D.str name) [D.nil, D.int 0])).toRows)) else none

noncomputable def F16 {R : Type} (fu : Nat) (name : ByteArray) (d_room : Int) (d_files : List (D × List D)) (k0 : Int → (List (List D)) → Option R) : Option R := shut (@Fb16 R) fu name d_room d_files k0
theorem F16_eq {R : Type} (fu : Nat) (name : ByteArray) (d_room : Int) (d_files : List (D × List D)) (k0 : Int → (List (List D)) → Option R) : F16 fu name d_room d_files k0 = Fb16 fu name d_room d_files k0 := by unfold F16; rw [shut_eq]

noncomputable def pc16 (fu : Nat) : Nat → Option ToldP := fun _ => none
noncomputable def t16 (fu : Nat) : ToldF := fun _ args s K => match args, s with
  | [.ptr 0 0, .str name], [.obj [.int .i64 d_room, .map 1], .map .str true zq0 d_files] => (match FT.sames zq0 ft0 with | true => F16 fu name d_room d_files (fun o_ o_1 => K (.tuple [.own 2, .int .i64 o_]) [.obj [.int .i64 (d_room), .map 1], .map .str true ft0 (d_files), .row ft1 o_1]) | false => none)
  | _, _ => none

theorem e16 (R : Type) (K : UV → USt → Option R) (fu : Nat) (name : ByteArray) (d_room : Int) (d_files : List (D × List D)) :
    F16 fu name d_room d_files (fun o_ o_1 => K (.tuple [.own 2, .int .i64 o_]) [.obj [.int .i64 (d_room), .map 1], .map .str true ft0 (d_files), .row ft1 o_1]) = ufun Try.prog ⟨(tb19 fu), pc16 fu⟩ 300 16 [.ptr 0 0, .str name] [.obj [.int .i64 d_room, .map 1], .map .str true ft0 d_files] (funK 2 [.ownP 0 [0] ft1, .gc] K) := (F16_eq fu _ _ _ _).trans (by kernel_rfl)

theorem s16 (fu : Nat) : Tells Try.prog 16 (t16 fu) := by
  refine ufun_sound (T := ⟨(tb19 fu), pc16 fu⟩) (m := 2) (gout := [.ownP 0 [0] ft1, .gc]) (k := 300) (tb19_sound fu) (fun fn body hf hb => ?_) (fun R args s K r h => ?_) (fun R args s K r h => ?_)
  · have hc : body = code16 := by
      have h1 : Try.prog.funcs[16]? = some Try.f16 := rfl
      rw [h1] at hf; cases hf
      have h2 : Try.f16.body = some code16 := rfl
      rw [h2] at hb; cases hb; rfl
    subst hc
    exact SoundPc.none _ _ _
  · unfold t16 at h; split at h
    · rfl
    · cases h
  · unfold t16 at h; split at h
    case h_2 => cases h
    split at h
    case h_2 => cases h
    rename_i hq
    have hq := FT.sames_eq _ _ hq
    subst hq
    exact (e16 R K fu _ _ _).symm.trans h

noncomputable def tb16 (fu : Nat) : FuncId → Option (Bool × ToldF) := fun f => match Nat.beq f 16 with
  | true => some (false, ghG [.gc, .gc] (t16 fu))
  | false => (tb19 fu) f
theorem tb16_sound (fu : Nat) : SoundF' Try.prog (tb16 fu) := by
  intro f own told h
  unfold tb16 at h
  split at h
  · rename_i hb
    cases h
    have := Nat.eq_of_beq_eq_true hb
    subst this
    exact ghG_sound (s16 fu)
  · exact (tb19_sound fu) f own told h

end Go.Proofs.Ytpaecfhgahheaaa.V

/- Printed by ugen: (*daisychain/disk.Disk).Copy -/
namespace Go.Proofs.Ytpaecfhgahheaaa.V
set_option maxRecDepth 100000
set_option maxHeartbeats 4000000


noncomputable def code26 : Code := match Try.f26.body with | some c => c | none => .skip

noncomputable def Fb26 {R : Type} (fu : Nat) (d_room : Int) (d_files : List (D × List D)) (k0 : Option R) : Option R :=
  (k0)

noncomputable def F26 {R : Type} (fu : Nat) (d_room : Int) (d_files : List (D × List D)) (k0 : Option R) : Option R := shut (@Fb26 R) fu d_room d_files k0
theorem F26_eq {R : Type} (fu : Nat) (d_room : Int) (d_files : List (D × List D)) (k0 : Option R) : F26 fu d_room d_files k0 = Fb26 fu d_room d_files k0 := by unfold F26; rw [shut_eq]

noncomputable def pc26 (fu : Nat) : Nat → Option ToldP := fun _ => none
noncomputable def t26 (fu : Nat) : ToldF := fun _ args s K => match args, s with
  | [.ptr 0 0], [.obj [.int .i64 d_room, .map 1], .map .str true zq0 d_files] => (match FT.sames zq0 ft0 with | true => F26 fu d_room d_files (K (.ptr 2 0) [.obj [.int .i64 (d_room), .map 1], .map .str true ft0 (d_files), .obj [.int .i64 (d_room), .map 3], .map .str true ft0 (d_files)]) | false => none)
  | _, _ => none

theorem e26 (R : Type) (K : UV → USt → Option R) (fu : Nat) (d_room : Int) (d_files : List (D × List D)) :
    F26 fu d_room d_files (K (.ptr 2 0) [.obj [.int .i64 (d_room), .map 1], .map .str true ft0 (d_files), .obj [.int .i64 (d_room), .map 3], .map .str true ft0 (d_files)]) = ufun Try.prog ⟨(tb16 fu), pc26 fu⟩ 300 26 [.ptr 0 0] [.obj [.int .i64 d_room, .map 1], .map .str true ft0 d_files] (funK 2 [.gc] K) := (F26_eq fu _ _ _).trans (by kernel_rfl)

theorem s26 (fu : Nat) : Tells Try.prog 26 (t26 fu) := by
  refine ufun_sound (T := ⟨(tb16 fu), pc26 fu⟩) (m := 2) (gout := [.gc]) (k := 300) (tb16_sound fu) (fun fn body hf hb => ?_) (fun R args s K r h => ?_) (fun R args s K r h => ?_)
  · have hc : body = code26 := by
      have h1 : Try.prog.funcs[26]? = some Try.f26 := rfl
      rw [h1] at hf; cases hf
      have h2 : Try.f26.body = some code26 := rfl
      rw [h2] at hb; cases hb; rfl
    subst hc
    exact SoundPc.none _ _ _
  · unfold t26 at h; split at h
    · rfl
    · cases h
  · unfold t26 at h; split at h
    case h_2 => cases h
    split at h
    case h_2 => cases h
    rename_i hq
    have hq := FT.sames_eq _ _ hq
    subst hq
    exact (e26 R K fu _ _).symm.trans h

noncomputable def tb26 (fu : Nat) : FuncId → Option (Bool × ToldF) := fun f => match Nat.beq f 26 with
  | true => some (false, ghG [.gc, .gc] (t26 fu))
  | false => (tb16 fu) f
theorem tb26_sound (fu : Nat) : SoundF' Try.prog (tb26 fu) := by
  intro f own told h
  unfold tb26 at h
  split at h
  · rename_i hb
    cases h
    have := Nat.eq_of_beq_eq_true hb
    subst this
    exact ghG_sound (s26 fu)
  · exact (tb16_sound fu) f own told h

end Go.Proofs.Ytpaecfhgahheaaa.V

/- Printed by ugen: (*daisychain/disk.Disk).Crash -/
namespace Go.Proofs.Ytpaecfhgahheaaa.V
set_option maxRecDepth 100000
set_option maxHeartbeats 4000000


noncomputable def code17 : Code := match Try.f17.body with | some c => c | none => .skip
theorem a17_6 : codeAt code17 6 = some (.loop (loopBody (codeAt code17 6))) := by kernel_rfl
noncomputable def F17_6 {R : Type} (fu : Nat) (keep : List (List D)) (x : Int) (x2 : List (List D)) : Nat → Int → (List (D × List D)) → ((List (D × List D)) → Option R) → Option R
  | 0, _, _, _ => none
  | n + 1, x1, y, k0 => bif decide (x1 < x) then bif within x1 x2.length then bif decide (x1 < ofN keep.length) then bif within x1 keep.length then bif decide (0 < (cell 0 (elem x1.toNat keep)).toInt) then bif within x1 keep.length then bif decide (IntKind.i64.wrap (IntKind.i64.wrap (ofN (cell 0 (mget y (D.str (cell 0 (elem x1.toNat x2)).toStr) [D.nil, D.int 0])).toRows.length - (cell 1 (mget y (D.str (cell 0 (elem x1.toNat x2)).toStr) [D.nil, D.int 0])).toInt) + 1) = 0) then none else bif decide (IntKind.i64.wrap ((cell 1 (mget y (D.str (cell 0 (elem x1.toNat x2)).toStr) [D.nil, D.int 0])).toInt + (cell 0 (elem x1.toNat keep)).toInt.tmod (IntKind.i64.wrap (IntKind.i64.wrap (ofN (cell 0 (mget y (D.str (cell 0 (elem x1.toNat x2)).toStr) [D.nil, D.int 0])).toRows.length - (cell 1 (mget y (D.str (cell 0 (elem x1.toNat x2)).toStr) [D.nil, D.int 0])).toInt) + 1))) = 0) && decide (IntKind.i64.wrap ((cell 1 (mget y (D.str (cell 0 (elem x1.toNat x2)).toStr) [D.nil, D.int 0])).toInt + (cell 0 (elem x1.toNat keep)).toInt.tmod (IntKind.i64.wrap (IntKind.i64.wrap (ofN (cell 0 (mget y (D.str (cell 0 (elem x1.toNat x2)).toStr) [D.nil, D.int 0])).toRows.length - (cell 1 (mget y (D.str (cell 0 (elem x1.toNat x2)).toStr) [D.nil, D.int 0])).toInt) + 1))) = 0) then (F17_6 fu keep x x2 n (IntKind.i64.wrap (x1 + 1)) (mput y (D.str (cell 0 (elem x1.toNat x2)).toStr) [D.row [], D.int (IntKind.i64.wrap ((cell 1 (mget y (D.str (cell 0 (elem x1.toNat x2)).toStr) [D.nil, D.int 0])).toInt + (cell 0 (elem x1.toNat keep)).toInt.tmod (IntKind.i64.wrap (IntKind.i64.wrap (ofN (cell 0 (mget y (D.str (cell 0 (elem x1.toNat x2)).toStr) [D.nil, D.int 0])).toRows.length - (cell 1 (mget y (D.str (cell 0 (elem x1.toNat x2)).toStr) [D.nil, D.int 0])).toInt) + 1))))]) k0) else bif decide ((0 : Int) ≤ 0 ∧ 0 ≤ IntKind.i64.wrap ((cell 1 (mget y (D.str (cell 0 (elem x1.toNat x2)).toStr) [D.nil, D.int 0])).toInt + (cell 0 (elem x1.toNat keep)).toInt.tmod (IntKind.i64.wrap (IntKind.i64.wrap (ofN (cell 0 (mget y (D.str (cell 0 (elem x1.toNat x2)).toStr) [D.nil, D.int 0])).toRows.length - (cell 1 (mget y (D.str (cell 0 (elem x1.toNat x2)).toStr) [D.nil, D.int 0])).toInt) + 1)))) && upTo (IntKind.i64.wrap ((cell 1 (mget y (D.str (cell 0 (elem x1.toNat x2)).toStr) [D.nil, D.int 0])).toInt + (cell 0 (elem x1.toNat keep)).toInt.tmod (IntKind.i64.wrap (IntKind.i64.wrap (ofN (cell 0 (mget y (D.str (cell 0 (elem x1.toNat x2)).toStr) [D.nil, D.int 0])).toRows.length - (cell 1 (mget y (D.str (cell 0 (elem x1.toNat x2)).toStr) [D.nil, D.int 0])).toInt) + 1)))) (cell 0 (mget y (D.str (cell 0 (elem x1.toNat x2)).toStr) [D.nil, D.int 0])).toRows.length && decide (IntKind.i64.wrap ((cell 1 (mget y (D.str (cell 0 (elem x1.toNat x2)).toStr) [D.nil, D.int 0])).toInt + (cell 0 (elem x1.toNat keep)).toInt.tmod (IntKind.i64.wrap (IntKind.i64.wrap (ofN (cell 0 (mget y (D.str (cell 0 (elem x1.toNat x2)).toStr) [D.nil, D.int 0])).toRows.length - (cell 1 (mget y (D.str (cell 0 (elem x1.toNat x2)).toStr) [D.nil, D.int 0])).toInt) + 1))) = IntKind.i64.wrap ((cell 1 (mget y (D.str (cell 0 (elem x1.toNat x2)).toStr) [D.nil, D.int 0])).toInt + (cell 0 (elem x1.toNat keep)).toInt.tmod (IntKind.i64.wrap (IntKind.i64.wrap (ofN (cell 0 (mget y (D.str (cell 0 (elem x1.toNat x2)).toStr) [D.nil, D.int 0])).toRows.length - (cell 1 (mget y (D.str (cell 0 (elem x1.toNat x2)).toStr) [D.nil, D.int 0])).toInt) + 1)))) then (F17_6 fu keep x x2 n (IntKind.i64.wrap (x1 + 1)) (mput y (D.str (cell 0 (elem x1.toNat x2)).toStr) [D.row (part (cell 0 (mget y (D.str (cell 0 (elem x1.toNat x2)).toStr) [D.nil, D.int 0])).toRows 0 (IntKind.i64.wrap ((cell 1 (mget y (D.str (cell 0 (elem x1.toNat x2)).toStr) [D.nil, D.int 0])).toInt + (cell 0 (elem x1.toNat keep)).toInt.tmod (IntKind.i64.wrap (IntKind.i64.wrap (ofN (cell 0 (mget y (D.str (cell 0 (elem x1.toNat x2)).toStr) [D.nil, D.int 0])).toRows.length - (cell 1 (mget y (D.str (cell 0 (elem x1.toNat x2)).toStr) [D.nil, D.int 0])).toInt) + 1)))).toNat), D.int (IntKind.i64.wrap ((cell 1 (mget y (D.str (cell 0 (elem x1.toNat x2)).toStr) [D.nil, D.int 0])).toInt + (cell 0 (elem x1.toNat keep)).toInt.tmod (IntKind.i64.wrap (IntKind.i64.wrap (ofN (cell 0 (mget y (D.str (cell 0 (elem x1.toNat x2)).toStr) [D.nil, D.int 0])).toRows.length - (cell 1 (mget y (D.str (cell 0 (elem x1.toNat x2)).toStr) [D.nil, D.int 0])).toInt) + 1))))]) k0) else none else none else bif decide ((cell 1 (mget y (D.str (cell 0 (elem x1.toNat x2)).toStr) [D.nil, D.int 0])).toInt = 0) && decide ((cell 1 (mget y (D.str (cell 0 (elem x1.toNat x2)).toStr) [D.nil, D.int 0])).toInt = 0) then (F17_6 fu keep x x2 n (IntKind.i64.wrap (x1 + 1)) (mput y (D.str (cell 0 (elem x1.toNat x2)).toStr) [D.row [], D.int (cell 1 (mget y (D.str (cell 0 (elem x1.toNat x2)).toStr) [D.nil, D.int 0])).toInt]) k0) else bif decide ((0 : Int) ≤ 0 ∧ 0 ≤ (cell 1 (mget y (D.str (cell 0 (elem x1.toNat x2)).toStr) [D.nil, D.int 0])).toInt) && upTo (cell 1 (mget y (D.str (cell 0 (elem x1.toNat x2)).toStr) [D.nil, D.int 0])).toInt (cell 0 (mget y (D.str (cell 0 (elem x1.toNat x2)).toStr) [D.nil, D.int 0])).toRows.length && decide ((cell 1 (mget y (D.str (cell 0 (elem x1.toNat x2)).toStr) [D.nil, D.int 0])).toInt = (cell 1 (mget y (D.str (cell 0 (elem x1.toNat x2)).toStr) [D.nil, D.int 0])).toInt) then (F17_6 fu keep x x2 n (IntKind.i64.wrap (x1 + 1)) (mput y (D.str (cell 0 (elem x1.toNat x2)).toStr) [D.row (part (cell 0 (mget y (D.str (cell 0 (elem x1.toNat x2)).toStr) [D.nil, D.int 0])).toRows 0 (cell 1 (mget y (D.str (cell 0 (elem x1.toNat x2)).toStr) [D.nil, D.int 0])).toInt.toNat), D.int (cell 1 (mget y (D.str (cell 0 (elem x1.toNat x2)).toStr) [D.nil, D.int 0])).toInt]) k0) else none else none else bif decide ((cell 1 (mget y (D.str (cell 0 (elem x1.toNat x2)).toStr) [D.nil, D.int 0])).toInt = 0) && decide ((cell 1 (mget y (D.str (cell 0 (elem x1.toNat x2)).toStr) [D.nil, D.int 0])).toInt = 0) then (F17_6 fu keep x x2 n (IntKind.i64.wrap (x1 + 1)) (mput y (D.str (cell 0 (elem x1.toNat x2)).toStr) [D.row [], D.int (cell 1 (mget y (D.str (cell 0 (elem x1.toNat x2)).toStr) [D.nil, D.int 0])).toInt]) k0) else bif decide ((0 : Int) ≤ 0 ∧ 0 ≤ (cell 1 (mget y (D.str (cell 0 (elem x1.toNat x2)).toStr) [D.nil, D.int 0])).toInt) && upTo (cell 1 (mget y (D.str (cell 0 (elem x1.toNat x2)).toStr) [D.nil, D.int 0])).toInt (cell 0 (mget y (D.str (cell 0 (elem x1.toNat x2)).toStr) [D.nil, D.int 0])).toRows.length && decide ((cell 1 (mget y (D.str (cell 0 (elem x1.toNat x2)).toStr) [D.nil, D.int 0])).toInt = (cell 1 (mget y (D.str (cell 0 (elem x1.toNat x2)).toStr) [D.nil, D.int 0])).toInt) then (F17_6 fu keep x x2 n (IntKind.i64.wrap (x1 + 1)) (mput y (D.str (cell 0 (elem x1.toNat x2)).toStr) [D.row (part (cell 0 (mget y (D.str (cell 0 (elem x1.toNat x2)).toStr) [D.nil, D.int 0])).toRows 0 (cell 1 (mget y (D.str (cell 0 (elem x1.toNat x2)).toStr) [D.nil, D.int 0])).toInt.toNat), D.int (cell 1 (mget y (D.str (cell 0 (elem x1.toNat x2)).toStr) [D.nil, D.int 0])).toInt]) k0) else none else none else (k0 y)

noncomputable def t17_6 (fu n : Nat) : ToldP := fun _ e s K => match e, s with
  | [.ptr 0 0, .fz zq0 keep false, .own 2, .int .i64 x, .int .i64 x1], [.obj [.int .i64 d, .map 1], .map .str true zq1 y, .row zq2 x2] => (match FT.sames zq0 ft3 with | true => (match FT.sames zq1 ft0 with | true => (match FT.sames zq2 ft4 with | true => F17_6 fu keep x x2 n x1 y (fun o_ => K (.exit 0) (unpackM (bitsM 0 0x0) []) [.obj [.int .i64 (d), .map 1], .map .str true ft0 o_]) | false => none) | false => none) | false => none)
  | _, _ => none

noncomputable def pc17_6 (fu : Nat) : Nat → Option ToldP := fun _ => none
theorem e17_6 (fu n : Nat) (R : Type) (K : VExit → UEnv → USt → Option R) (keep : List (List D)) (x : Int) (x1 : Int) (d : Int) (y : List (D × List D)) (x2 : List (List D)) :
    F17_6 fu keep x x2 (n + 1) x1 y (fun o_ => K (.exit 0) (unpackM (bitsM 0 0x0) []) [.obj [.int .i64 (d), .map 1], .map .str true ft0 o_]) = uexec Try.prog (tb26 fu) 300 (pc17_6 fu) 12 (loopBody (codeAt code17 6)) (unpackM (bitsM 12 0xe03) [.ptr 0 0, .fz ft3 keep false, .own 2, .int .i64 x, .int .i64 x1]) [.obj [.int .i64 d, .map 1], .map .str true ft0 y, .row ft4 x2] (loopK 2 [.live (bitsM 12 0xe03), .fzP 1 [] ft3, .ownP 9 [] ft4, .gc] [.live (bitsM 0 0), .gc] (pkP (bitsM 12 0xe03) (t17_6 fu n)) K) := by kernel_rfl

theorem p17_6 (fu : Nat) : SoundPc Try.prog 2 code17 (pc17_6 fu) := SoundPc.none _ _ _
theorem s17_6 (fu : Nat) : ∀ n, SoundP Try.prog 2 (.loop (loopBody (codeAt code17 6))) (pkP (bitsM 12 0xe03) (t17_6 fu n)) := by
  refine loopP_sound (gin := [.live (bitsM 12 0xe03), .fzP 1 [] ft3, .ownP 9 [] ft4, .gc]) (gout := [.live (bitsM 0 0), .gc]) (k := 300) (tb26_sound fu) (p17_6 fu) (by decide) a17_6 (fun R e s K => ?_) (fun n R e s K r h => ?_)
  · unfold t17_6; repeat' split
    all_goals rfl
  · unfold t17_6 at h; split at h
    case h_2 => cases h
    split at h
    case h_2 => cases h
    rename_i hq
    have hq := FT.sames_eq _ _ hq
    subst hq
    split at h
    case h_2 => cases h
    rename_i hq
    have hq := FT.sames_eq _ _ hq
    subst hq
    split at h
    case h_2 => cases h
    rename_i hq
    have hq := FT.sames_eq _ _ hq
    subst hq
    exact (e17_6 fu n R K _ _ _ _ _ _).symm.trans h


noncomputable def Fb17 {R : Type} (fu : Nat) (keep : List (List D)) (d_room : Int) (d_files : List (D × List D)) (k0 : (List (D × List D)) → Option R) : Option R :=
  bif keysOK d_files then F17_6 fu keep (ofN (keysD d_files).length) (keysD d_files) fu 0 d_files fun o_0 => (k0 o_0) else none

noncomputable def F17 {R : Type} (fu : Nat) (keep : List (List D)) (d_room : Int) (d_files : List (D × List D)) (k0 : (List (D × List D)) → Option R) : Option R := shut (@Fb17 R) fu keep d_room d_files k0
theorem F17_eq {R : Type} (fu : Nat) (keep : List (List D)) (d_room : Int) (d_files : List (D × List D)) (k0 : (List (D × List D)) → Option R) : F17 fu keep d_room d_files k0 = Fb17 fu keep d_room d_files k0 := by unfold F17; rw [shut_eq]

noncomputable def pc17 (fu : Nat) : Nat → Option ToldP := fun p => match Nat.beq p 6 with | true => some (ghP 2 [.live (bitsM 12 0xe03), .fzP 1 [] ft3, .ownP 9 [] ft4, .gc] (pkP (bitsM 12 0xe03) (t17_6 fu fu))) | false => none
noncomputable def t17 (fu : Nat) : ToldF := fun _ args s K => match args, s with
  | [.ptr 0 0, .fz zq0 keep false], [.obj [.int .i64 d_room, .map 1], .map .str true zq1 d_files] => (match FT.sames zq0 ft3 with | true => (match FT.sames zq1 ft0 with | true => F17 fu keep d_room d_files (fun o_ => K (.tuple []) [.obj [.int .i64 (d_room), .map 1], .map .str true ft0 o_]) | false => none) | false => none)
  | _, _ => none

theorem e17 (R : Type) (K : UV → USt → Option R) (fu : Nat) (keep : List (List D)) (d_room : Int) (d_files : List (D × List D)) :
    F17 fu keep d_room d_files (fun o_ => K (.tuple []) [.obj [.int .i64 (d_room), .map 1], .map .str true ft0 o_]) = ufun Try.prog ⟨(tb26 fu), pc17 fu⟩ 300 17 [.ptr 0 0, .fz ft3 keep false] [.obj [.int .i64 d_room, .map 1], .map .str true ft0 d_files] (funK 2 [.gc] K) := (F17_eq fu _ _ _ _).trans (by kernel_rfl)

theorem s17 (fu : Nat) : Tells Try.prog 17 (t17 fu) := by
  refine ufun_sound (T := ⟨(tb26 fu), pc17 fu⟩) (m := 2) (gout := [.gc]) (k := 300) (tb26_sound fu) (fun fn body hf hb => ?_) (fun R args s K r h => ?_) (fun R args s K r h => ?_)
  · have hc : body = code17 := by
      have h1 : Try.prog.funcs[17]? = some Try.f17 := rfl
      rw [h1] at hf; cases hf
      have h2 : Try.f17.body = some code17 := rfl
      rw [h2] at hb; cases hb; rfl
    subst hc
    exact fun p told h b hb => by
      replace h : pc17 fu p = some told := h
      unfold pc17 at h
      split at h
      · rename_i hp
        cases h
        have := Nat.eq_of_beq_eq_true hp
        subst this
        rw [a17_6] at hb
        cases hb
        exact ghP_sound (s17_6 fu _)
      ·
        cases h

  · unfold t17 at h; split at h
    · rfl
    · cases h
  · unfold t17 at h; split at h
    case h_2 => cases h
    split at h
    case h_2 => cases h
    rename_i hq
    have hq := FT.sames_eq _ _ hq
    subst hq
    split at h
    case h_2 => cases h
    rename_i hq
    have hq := FT.sames_eq _ _ hq
    subst hq
    exact (e17 R K fu _ _ _).symm.trans h

noncomputable def tb17 (fu : Nat) : FuncId → Option (Bool × ToldF) := fun f => match Nat.beq f 17 with
  | true => some (false, ghG [.fzP 1 [] ft3, .gc, .gc] (t17 fu))
  | false => (tb26 fu) f
theorem tb17_sound (fu : Nat) : SoundF' Try.prog (tb17 fu) := by
  intro f own told h
  unfold tb17 at h
  split at h
  · rename_i hb
    cases h
    have := Nat.eq_of_beq_eq_true hb
    subst this
    exact ghG_sound (s17 fu)
  · exact (tb26_sound fu) f own told h

end Go.Proofs.Ytpaecfhgahheaaa.V

/- Printed by ugen: bytes.Equal -/
namespace Go.Proofs.Ytpaecfhgahheaaa.V
set_option maxRecDepth 100000
set_option maxHeartbeats 4000000


noncomputable def code18 : Code := match Try.f18.body with | some c => c | none => .skip

noncomputable def Fb18 {R : Type} (fu : Nat) (a : List (List D)) (b : List (List D)) (k0 : Bool → Option R) : Option R :=
  (k0 (strEq (strOf a) (strOf b)))

noncomputable def F18 {R : Type} (fu : Nat) (a : List (List D)) (b : List (List D)) (k0 : Bool → Option R) : Option R := shut (@Fb18 R) fu a b k0
theorem F18_eq {R : Type} (fu : Nat) (a : List (List D)) (b : List (List D)) (k0 : Bool → Option R) : F18 fu a b k0 = Fb18 fu a b k0 := by unfold F18; rw [shut_eq]

noncomputable def pc18 (fu : Nat) : Nat → Option ToldP := fun _ => none
noncomputable def t18 (fu : Nat) : ToldF := fun _ args s K => match args, s with
  | [.fz zq0 a false, .fz zq1 b false], [] => (match FT.sames zq0 ft1 with | true => (match FT.sames zq1 ft1 with | true => F18 fu a b (fun o_ => K (.bool o_) []) | false => none) | false => none)
  | _, _ => none

theorem e18 (R : Type) (K : UV → USt → Option R) (fu : Nat) (a : List (List D)) (b : List (List D)) :
    F18 fu a b (fun o_ => K (.bool o_) []) = ufun Try.prog ⟨(tb17 fu), pc18 fu⟩ 300 18 [.fz ft1 a false, .fz ft1 b false] [] (funK 0 [.gc] K) := (F18_eq fu _ _ _).trans (by kernel_rfl)

theorem s18 (fu : Nat) : Tells Try.prog 18 (t18 fu) := by
  refine ufun_sound (T := ⟨(tb17 fu), pc18 fu⟩) (m := 0) (gout := [.gc]) (k := 300) (tb17_sound fu) (fun fn body hf hb => ?_) (fun R args s K r h => ?_) (fun R args s K r h => ?_)
  · have hc : body = code18 := by
      have h1 : Try.prog.funcs[18]? = some Try.f18 := rfl
      rw [h1] at hf; cases hf
      have h2 : Try.f18.body = some code18 := rfl
      rw [h2] at hb; cases hb; rfl
    subst hc
    exact SoundPc.none _ _ _
  · unfold t18 at h; split at h
    · rfl
    · cases h
  · unfold t18 at h; split at h
    case h_2 => cases h
    split at h
    case h_2 => cases h
    rename_i hq
    have hq := FT.sames_eq _ _ hq
    subst hq
    split at h
    case h_2 => cases h
    rename_i hq
    have hq := FT.sames_eq _ _ hq
    subst hq
    exact (e18 R K fu _ _).symm.trans h

noncomputable def tb18 (fu : Nat) : FuncId → Option (Bool × ToldF) := fun f => match Nat.beq f 18 with
  | true => some (false, ghG [.fzP 0 [] ft1, .fzP 1 [] ft1] (t18 fu))
  | false => (tb17 fu) f
theorem tb18_sound (fu : Nat) : SoundF' Try.prog (tb18 fu) := by
  intro f own told h
  unfold tb18 at h
  split at h
  · rename_i hb
    cases h
    have := Nat.eq_of_beq_eq_true hb
    subst this
    exact ghG_sound (s18 fu)
  · exact (tb17_sound fu) f own told h

end Go.Proofs.Ytpaecfhgahheaaa.V

/- Printed by ugen: daisychain/daisychainref03.New -/
namespace Go.Proofs.Ytpaecfhgahheaaa.V
set_option maxRecDepth 100000
set_option maxHeartbeats 4000000


noncomputable def code22 : Code := match Try.f22.body with | some c => c | none => .skip

noncomputable def Fb22 {R : Type} (fu : Nat) (room : Int) (k0 : (List D) → Option R) : Option R :=
  bif decide (room < 0) then (k0 ([D.int 0, D.row ([])])) else bif decide (1048576 < room) then (k0 ([D.int 1048576, D.row ([])])) else (k0 ([D.int room, D.row ([])]))

noncomputable def F22 {R : Type} (fu : Nat) (room : Int) (k0 : (List D) → Option R) : Option R := shut (@Fb22 R) fu room k0
theorem F22_eq {R : Type} (fu : Nat) (room : Int) (k0 : (List D) → Option R) : F22 fu room k0 = Fb22 fu room k0 := by unfold F22; rw [shut_eq]

noncomputable def pc22 (fu : Nat) : Nat → Option ToldP := fun _ => none
noncomputable def t22 (fu : Nat) : ToldF := fun _ args s K => match args, s with
  | [.int .i64 room], [] => F22 fu room (fun o_ => K (.agg (ofDs 0 ft6 o_)) [])
  | _, _ => none

theorem e22 (R : Type) (K : UV → USt → Option R) (fu : Nat) (room : Int) :
    F22 fu room (fun o_ => K (.agg (ofDs 0 ft6 o_)) []) = ufun Try.prog ⟨(tb18 fu), pc22 fu⟩ 300 22 [.int .i64 room] [] (funK 0 [.fzP 0 [1] ft5, .gc] K) := (F22_eq fu _ _).trans (by kernel_rfl)

theorem s22 (fu : Nat) : Tells Try.prog 22 (t22 fu) := by
  refine ufun_sound (T := ⟨(tb18 fu), pc22 fu⟩) (m := 0) (gout := [.fzP 0 [1] ft5, .gc]) (k := 300) (tb18_sound fu) (fun fn body hf hb => ?_) (fun R args s K r h => ?_) (fun R args s K r h => ?_)
  · have hc : body = code22 := by
      have h1 : Try.prog.funcs[22]? = some Try.f22 := rfl
      rw [h1] at hf; cases hf
      have h2 : Try.f22.body = some code22 := rfl
      rw [h2] at hb; cases hb; rfl
    subst hc
    exact SoundPc.none _ _ _
  · unfold t22 at h; split at h
    · rfl
    · cases h
  · unfold t22 at h; split at h
    case h_2 => cases h
    exact (e22 R K fu _).symm.trans h

noncomputable def tb22 (fu : Nat) : FuncId → Option (Bool × ToldF) := fun f => match Nat.beq f 22 with
  | true => some (false, ghG [] (t22 fu))
  | false => (tb18 fu) f
theorem tb22_sound (fu : Nat) : SoundF' Try.prog (tb22 fu) := by
  intro f own told h
  unfold tb22 at h
  split at h
  · rename_i hb
    cases h
    have := Nat.eq_of_beq_eq_true hb
    subst this
    exact ghG_sound (s22 fu)
  · exact (tb18_sound fu) f own told h

end Go.Proofs.Ytpaecfhgahheaaa.V

/- Printed by ugen: daisychain/daisychainref03.At -/
namespace Go.Proofs.Ytpaecfhgahheaaa.V
set_option maxRecDepth 100000
set_option maxHeartbeats 4000000


noncomputable def code34 : Code := match Try.f34.body with | some c => c | none => .skip
theorem a34_26 : codeAt code34 26 = some (.loop (loopBody (codeAt code34 26))) := by kernel_rfl
noncomputable def F34_26 {R : Type} (fu : Nat) (name : ByteArray) (d1 : List (List D)) : Nat → Int → (Int → Option R) → (Option R) → Option R
  | 0, _, _, _ => none
  | n + 1, i, k0, k1 => bif decide (i < ofN d1.length) then bif within i d1.length then bif strEq (cell 0 (elem i.toNat d1)).toStr name then (k0 i) else (F34_26 fu name d1 n (IntKind.i64.wrap (i + 1)) k0 k1) else none else (k1)

noncomputable def t34_26 (fu n : Nat) : ToldP := fun _ e s K => match e, s with
  | [.str name, .ptr 0 0, .int .i64 i], [.obj [.int .i64 d, .fz zq0 d1 false]] => (match FT.sames zq0 ft5 with | true => F34_26 fu name d1 n i (fun o_ => K .ret (unpackM (bitsM 5 0x10) [.int .i64 o_]) []) (K (.exit 0) (unpackM (bitsM 5 0x0) []) []) | false => none)
  | _, _ => none

noncomputable def pc34_26 (fu : Nat) : Nat → Option ToldP := fun _ => none
theorem e34_26 (fu n : Nat) (R : Type) (K : VExit → UEnv → USt → Option R) (name : ByteArray) (i : Int) (d : Int) (d1 : List (List D)) :
    F34_26 fu name d1 (n + 1) i (fun o_ => K .ret (unpackM (bitsM 5 0x10) [.int .i64 o_]) []) (K (.exit 0) (unpackM (bitsM 5 0x0) []) []) = uexec Try.prog (tb22 fu) 300 (pc34_26 fu) 52 (loopBody (codeAt code34 26)) (unpackM (bitsM 6 0x26) [.str name, .ptr 0 0, .int .i64 i]) [.obj [.int .i64 d, .fz ft5 d1 false]] (loopK 0 [.live (bitsM 6 0x26), .gc, .fzC 0 1 ft5, .gc] [.live (bitsM 5 0x10), .gc] (pkP (bitsM 6 0x26) (t34_26 fu n)) K) := by kernel_rfl

theorem p34_26 (fu : Nat) : SoundPc Try.prog 0 code34 (pc34_26 fu) := SoundPc.none _ _ _
theorem s34_26 (fu : Nat) : ∀ n, SoundP Try.prog 0 (.loop (loopBody (codeAt code34 26))) (pkP (bitsM 6 0x26) (t34_26 fu n)) := by
  refine loopP_sound (gin := [.live (bitsM 6 0x26), .gc, .fzC 0 1 ft5, .gc]) (gout := [.live (bitsM 5 0x10), .gc]) (k := 300) (tb22_sound fu) (p34_26 fu) (by decide) a34_26 (fun R e s K => ?_) (fun n R e s K r h => ?_)
  · unfold t34_26; repeat' split
    all_goals rfl
  · unfold t34_26 at h; split at h
    case h_2 => cases h
    split at h
    case h_2 => cases h
    rename_i hq
    have hq := FT.sames_eq _ _ hq
    subst hq
    exact (e34_26 fu n R K _ _ _ _).symm.trans h


noncomputable def Fb34 {R : Type} (fu : Nat) (d : List D) (name : ByteArray) (k0 : Int → Option R) : Option R :=
  F34_26 fu name (cell 1 d).toRows fu 0 (fun o_0 => (k0 o_0)) ((k0 (-1)))

noncomputable def F34 {R : Type} (fu : Nat) (d : List D) (name : ByteArray) (k0 : Int → Option R) : Option R := shut (@Fb34 R) fu d name k0
theorem F34_eq {R : Type} (fu : Nat) (d : List D) (name : ByteArray) (k0 : Int → Option R) : F34 fu d name k0 = Fb34 fu d name k0 := by unfold F34; rw [shut_eq]

noncomputable def pc34 (fu : Nat) : Nat → Option ToldP := fun p => match Nat.beq p 26 with | true => some (ghP 0 [.live (bitsM 6 0x26), .gc, .fzC 0 1 ft5, .gc] (pkP (bitsM 6 0x26) (t34_26 fu fu))) | false => none
noncomputable def t34 (fu : Nat) : ToldF := fun _ args s K => match args, s with
  | [.agg [.int .i64 q, .fz zq0 q1 false], .str name], [] => (match FT.sames zq0 ft5 with | true => F34 fu [D.int q, D.row q1] name (fun o_ => K (.int .i64 o_) []) | false => none)
  | _, _ => none

theorem e34 (R : Type) (K : UV → USt → Option R) (fu : Nat) (q : Int) (q1 : List (List D)) (name : ByteArray) :
    F34 fu [D.int q, D.row q1] name (fun o_ => K (.int .i64 o_) []) = ufun Try.prog ⟨(tb22 fu), pc34 fu⟩ 300 34 [.agg [.int .i64 q, .fz ft5 q1 false], .str name] [] (funK 0 [.gc] K) := (F34_eq fu _ _ _).trans (by kernel_rfl)

theorem s34 (fu : Nat) : Tells Try.prog 34 (t34 fu) := by
  refine ufun_sound (T := ⟨(tb22 fu), pc34 fu⟩) (m := 0) (gout := [.gc]) (k := 300) (tb22_sound fu) (fun fn body hf hb => ?_) (fun R args s K r h => ?_) (fun R args s K r h => ?_)
  · have hc : body = code34 := by
      have h1 : Try.prog.funcs[34]? = some Try.f34 := rfl
      rw [h1] at hf; cases hf
      have h2 : Try.f34.body = some code34 := rfl
      rw [h2] at hb; cases hb; rfl
    subst hc
    exact fun p told h b hb => by
      replace h : pc34 fu p = some told := h
      unfold pc34 at h
      split at h
      · rename_i hp
        cases h
        have := Nat.eq_of_beq_eq_true hp
        subst this
        rw [a34_26] at hb
        cases hb
        exact ghP_sound (s34_26 fu _)
      ·
        cases h

  · unfold t34 at h; split at h
    · rfl
    · cases h
  · unfold t34 at h; split at h
    case h_2 => cases h
    split at h
    case h_2 => cases h
    rename_i hq
    have hq := FT.sames_eq _ _ hq
    subst hq
    exact (e34 R K fu _ _ _).symm.trans h

noncomputable def tb34 (fu : Nat) : FuncId → Option (Bool × ToldF) := fun f => match Nat.beq f 34 with
  | true => some (false, ghG [.fzP 0 [1] ft5] (t34 fu))
  | false => (tb22 fu) f
theorem tb34_sound (fu : Nat) : SoundF' Try.prog (tb34 fu) := by
  intro f own told h
  unfold tb34 at h
  split at h
  · rename_i hb
    cases h
    have := Nat.eq_of_beq_eq_true hb
    subst this
    exact ghG_sound (s34 fu)
  · exact (tb22_sound fu) f own told h

end Go.Proofs.Ytpaecfhgahheaaa.V

/- Printed by ugen: daisychain/daisychainref03.named -/
namespace Go.Proofs.Ytpaecfhgahheaaa.V
set_option maxRecDepth 100000
set_option maxHeartbeats 4000000


noncomputable def code35 : Code := match Try.f35.body with | some c => c | none => .skip
theorem a35_26 : codeAt code35 26 = some (.loop (loopBody (codeAt code35 26))) := by kernel_rfl
noncomputable def F35_26 {R : Type} (fu : Nat) (s : ByteArray) : Nat → Int → (Option R) → (Option R) → Option R
  | 0, _, _, _ => none
  | n + 1, i, k0, k1 => bif decide (i < ofN s.size) then bif within i s.size then bif decide (byteAt s i.toNat = 10) then (k0) else (F35_26 fu s n (IntKind.i64.wrap (i + 1)) k0 k1) else none else (k1)

noncomputable def t35_26 (fu n : Nat) : ToldP := fun _ e s K => match e, s with
  | [.str s, .int .i64 i], [] => F35_26 fu s n i (K .ret (unpackM (bitsM 3 0x5) [.str (s), .bool (false)]) []) (K (.exit 0) (unpackM (bitsM 3 0x1) [.str (s)]) [])
  | _, _ => none

noncomputable def pc35_26 (fu : Nat) : Nat → Option ToldP := fun _ => none
theorem e35_26 (fu n : Nat) (R : Type) (K : VExit → UEnv → USt → Option R) (s : ByteArray) (i : Int) :
    F35_26 fu s (n + 1) i (K .ret (unpackM (bitsM 3 0x5) [.str (s), .bool (false)]) []) (K (.exit 0) (unpackM (bitsM 3 0x1) [.str (s)]) []) = uexec Try.prog (tb34 fu) 300 (pc35_26 fu) 52 (loopBody (codeAt code35 26)) (unpackM (bitsM 4 0x9) [.str s, .int .i64 i]) [] (loopK 0 [.live (bitsM 4 0x9), .gc] [.live (bitsM 3 0x5), .gc] (pkP (bitsM 4 0x9) (t35_26 fu n)) K) := by kernel_rfl

theorem p35_26 (fu : Nat) : SoundPc Try.prog 0 code35 (pc35_26 fu) := SoundPc.none _ _ _
theorem s35_26 (fu : Nat) : ∀ n, SoundP Try.prog 0 (.loop (loopBody (codeAt code35 26))) (pkP (bitsM 4 0x9) (t35_26 fu n)) := by
  refine loopP_sound (gin := [.live (bitsM 4 0x9), .gc]) (gout := [.live (bitsM 3 0x5), .gc]) (k := 300) (tb34_sound fu) (p35_26 fu) (by decide) a35_26 (fun R e s K => ?_) (fun n R e s K r h => ?_)
  · unfold t35_26; repeat' split
    all_goals rfl
  · unfold t35_26 at h; split at h
    case h_2 => cases h
    exact (e35_26 fu n R K _ _).symm.trans h


noncomputable def Fb35 {R : Type} (fu : Nat) (s : ByteArray) (k0 : Bool → Option R) : Option R :=
  F35_26 fu s fu 0 ((k0 false)) (bif decide (0 < ofN s.size) then (k0 (decide (ofN s.size < 33))) else (k0 false))

noncomputable def F35 {R : Type} (fu : Nat) (s : ByteArray) (k0 : Bool → Option R) : Option R := shut (@Fb35 R) fu s k0
theorem F35_eq {R : Type} (fu : Nat) (s : ByteArray) (k0 : Bool → Option R) : F35 fu s k0 = Fb35 fu s k0 := by unfold F35; rw [shut_eq]

noncomputable def pc35 (fu : Nat) : Nat → Option ToldP := fun p => match Nat.beq p 26 with | true => some (ghP 0 [.live (bitsM 4 0x9), .gc] (pkP (bitsM 4 0x9) (t35_26 fu fu))) | false => none
noncomputable def t35 (fu : Nat) : ToldF := fun _ args s K => match args, s with
  | [.str s], [] => F35 fu s (fun o_ => K (.bool o_) [])
  | _, _ => none

theorem e35 (R : Type) (K : UV → USt → Option R) (fu : Nat) (s : ByteArray) :
    F35 fu s (fun o_ => K (.bool o_) []) = ufun Try.prog ⟨(tb34 fu), pc35 fu⟩ 300 35 [.str s] [] (funK 0 [.gc] K) := (F35_eq fu _ _).trans (by kernel_rfl)

theorem s35 (fu : Nat) : Tells Try.prog 35 (t35 fu) := by
  refine ufun_sound (T := ⟨(tb34 fu), pc35 fu⟩) (m := 0) (gout := [.gc]) (k := 300) (tb34_sound fu) (fun fn body hf hb => ?_) (fun R args s K r h => ?_) (fun R args s K r h => ?_)
  · have hc : body = code35 := by
      have h1 : Try.prog.funcs[35]? = some Try.f35 := rfl
      rw [h1] at hf; cases hf
      have h2 : Try.f35.body = some code35 := rfl
      rw [h2] at hb; cases hb; rfl
    subst hc
    exact fun p told h b hb => by
      replace h : pc35 fu p = some told := h
      unfold pc35 at h
      split at h
      · rename_i hp
        cases h
        have := Nat.eq_of_beq_eq_true hp
        subst this
        rw [a35_26] at hb
        cases hb
        exact ghP_sound (s35_26 fu _)
      ·
        cases h

  · unfold t35 at h; split at h
    · rfl
    · cases h
  · unfold t35 at h; split at h
    case h_2 => cases h
    exact (e35 R K fu _).symm.trans h

noncomputable def tb35 (fu : Nat) : FuncId → Option (Bool × ToldF) := fun f => match Nat.beq f 35 with
  | true => some (false, ghG [] (t35 fu))
  | false => (tb34 fu) f
theorem tb35_sound (fu : Nat) : SoundF' Try.prog (tb35 fu) := by
  intro f own told h
  unfold tb35 at h
  split at h
  · rename_i hb
    cases h
    have := Nat.eq_of_beq_eq_true hb
    subst this
    exact ghG_sound (s35 fu)
  · exact (tb34_sound fu) f own told h

end Go.Proofs.Ytpaecfhgahheaaa.V

/- Printed by ugen: daisychain/daisychainref03.Used -/
namespace Go.Proofs.Ytpaecfhgahheaaa.V
set_option maxRecDepth 100000
set_option maxHeartbeats 4000000


noncomputable def code36 : Code := match Try.f36.body with | some c => c | none => .skip
theorem a36_58 : codeAt code36 58 = some (.loop (loopBody (codeAt code36 58))) := by kernel_rfl
noncomputable def F36_58 {R : Type} (fu : Nat) (d1 : List (List D)) : Nat → Int → Int → (Int → Option R) → Option R
  | 0, _, _, _ => none
  | n + 1, n_, i, k0 => bif decide (i < ofN d1.length) then bif within i d1.length then (F36_58 fu d1 n (IntKind.i64.wrap (n_ + ofN (cell 1 (elem i.toNat d1)).toRows.length)) (IntKind.i64.wrap (i + 1)) k0) else none else (k0 n_)

noncomputable def t36_58 (fu n : Nat) : ToldP := fun _ e s K => match e, s with
  | [.ptr 0 0, .int .i64 n_, .int .i64 i], [.obj [.int .i64 d, .fz zq0 d1 false]] => (match FT.sames zq0 ft5 with | true => F36_58 fu d1 n n_ i (fun o_ => K (.exit 0) (unpackM (bitsM 4 0x8) [.int .i64 o_]) []) | false => none)
  | _, _ => none

noncomputable def pc36_58 (fu : Nat) : Nat → Option ToldP := fun _ => none
theorem e36_58 (fu n : Nat) (R : Type) (K : VExit → UEnv → USt → Option R) (n_ : Int) (i : Int) (d : Int) (d1 : List (List D)) :
    F36_58 fu d1 (n + 1) n_ i (fun o_ => K (.exit 0) (unpackM (bitsM 4 0x8) [.int .i64 o_]) []) = uexec Try.prog (tb35 fu) 300 (pc36_58 fu) 116 (loopBody (codeAt code36 58)) (unpackM (bitsM 5 0x1a) [.ptr 0 0, .int .i64 n_, .int .i64 i]) [.obj [.int .i64 d, .fz ft5 d1 false]] (loopK 0 [.live (bitsM 5 0x1a), .gc, .fzC 0 1 ft5, .gc] [.live (bitsM 4 0xc), .gc] (pkP (bitsM 5 0x1a) (t36_58 fu n)) K) := by kernel_rfl

theorem p36_58 (fu : Nat) : SoundPc Try.prog 0 code36 (pc36_58 fu) := SoundPc.none _ _ _
theorem s36_58 (fu : Nat) : ∀ n, SoundP Try.prog 0 (.loop (loopBody (codeAt code36 58))) (pkP (bitsM 5 0x1a) (t36_58 fu n)) := by
  refine loopP_sound (gin := [.live (bitsM 5 0x1a), .gc, .fzC 0 1 ft5, .gc]) (gout := [.live (bitsM 4 0xc), .gc]) (k := 300) (tb35_sound fu) (p36_58 fu) (by decide) a36_58 (fun R e s K => ?_) (fun n R e s K r h => ?_)
  · unfold t36_58; repeat' split
    all_goals rfl
  · unfold t36_58 at h; split at h
    case h_2 => cases h
    split at h
    case h_2 => cases h
    rename_i hq
    have hq := FT.sames_eq _ _ hq
    subst hq
    exact (e36_58 fu n R K _ _ _ _).symm.trans h


noncomputable def Fb36 {R : Type} (fu : Nat) (d : List D) (k0 : Int → Option R) : Option R :=
  F36_58 fu (cell 1 d).toRows fu 0 0 fun o_0 => (k0 o_0)

noncomputable def F36 {R : Type} (fu : Nat) (d : List D) (k0 : Int → Option R) : Option R := shut (@Fb36 R) fu d k0
theorem F36_eq {R : Type} (fu : Nat) (d : List D) (k0 : Int → Option R) : F36 fu d k0 = Fb36 fu d k0 := by unfold F36; rw [shut_eq]

noncomputable def pc36 (fu : Nat) : Nat → Option ToldP := fun p => match Nat.beq p 58 with | true => some (ghP 0 [.live (bitsM 5 0x1a), .gc, .fzC 0 1 ft5, .gc] (pkP (bitsM 5 0x1a) (t36_58 fu fu))) | false => none
noncomputable def t36 (fu : Nat) : ToldF := fun _ args s K => match args, s with
  | [.agg [.int .i64 q, .fz zq0 q1 false]], [] => (match FT.sames zq0 ft5 with | true => F36 fu [D.int q, D.row q1] (fun o_ => K (.int .i64 o_) []) | false => none)
  | _, _ => none

theorem e36 (R : Type) (K : UV → USt → Option R) (fu : Nat) (q : Int) (q1 : List (List D)) :
    F36 fu [D.int q, D.row q1] (fun o_ => K (.int .i64 o_) []) = ufun Try.prog ⟨(tb35 fu), pc36 fu⟩ 300 36 [.agg [.int .i64 q, .fz ft5 q1 false]] [] (funK 0 [.gc] K) := (F36_eq fu _ _).trans (by kernel_rfl)

theorem s36 (fu : Nat) : Tells Try.prog 36 (t36 fu) := by
  refine ufun_sound (T := ⟨(tb35 fu), pc36 fu⟩) (m := 0) (gout := [.gc]) (k := 300) (tb35_sound fu) (fun fn body hf hb => ?_) (fun R args s K r h => ?_) (fun R args s K r h => ?_)
  · have hc : body = code36 := by
      have h1 : Try.prog.funcs[36]? = some Try.f36 := rfl
      rw [h1] at hf; cases hf
      have h2 : Try.f36.body = some code36 := rfl
      rw [h2] at hb; cases hb; rfl
    subst hc
    exact fun p told h b hb => by
      replace h : pc36 fu p = some told := h
      unfold pc36 at h
      split at h
      · rename_i hp
        cases h
        have := Nat.eq_of_beq_eq_true hp
        subst this
        rw [a36_58] at hb
        cases hb
        exact ghP_sound (s36_58 fu _)
      ·
        cases h

  · unfold t36 at h; split at h
    · rfl
    · cases h
  · unfold t36 at h; split at h
    case h_2 => cases h
    split at h
    case h_2 => cases h
    rename_i hq
    have hq := FT.sames_eq _ _ hq
    subst hq
    exact (e36 R K fu _ _).symm.trans h

noncomputable def tb36 (fu : Nat) : FuncId → Option (Bool × ToldF) := fun f => match Nat.beq f 36 with
  | true => some (false, ghG [.fzP 0 [1] ft5] (t36 fu))
  | false => (tb35 fu) f
theorem tb36_sound (fu : Nat) : SoundF' Try.prog (tb36 fu) := by
  intro f own told h
  unfold tb36 at h
  split at h
  · rename_i hb
    cases h
    have := Nat.eq_of_beq_eq_true hb
    subst this
    exact ghG_sound (s36 fu)
  · exact (tb35_sound fu) f own told h

end Go.Proofs.Ytpaecfhgahheaaa.V

/- Printed by ugen: daisychain/daisychainref03.without -/
namespace Go.Proofs.Ytpaecfhgahheaaa.V
set_option maxRecDepth 100000
set_option maxHeartbeats 4000000


noncomputable def code38 : Code := match Try.f38.body with | some c => c | none => .skip
theorem a38_58 : codeAt code38 58 = some (.loop (loopBody (codeAt code38 58))) := by kernel_rfl
noncomputable def F38_58 {R : Type} (fu : Nat) (name : ByteArray) (d1 : List (List D)) : Nat → Int → (List (List D)) → ((List (List D)) → Option R) → Option R
  | 0, _, _, _ => none
  | n + 1, i, y, k0 => bif decide (i < ofN d1.length) then bif within i d1.length then bif !strEq (cell 0 (elem i.toNat d1)).toStr name then bif within i d1.length then bif fits (y.length + 1) 48 then (F38_58 fu name d1 n (IntKind.i64.wrap (i + 1)) (y ++ [[D.str (cell 0 (elem i.toNat d1)).toStr, D.row (cell 1 (elem i.toNat d1)).toRows, D.int (cell 2 (elem i.toNat d1)).toInt]]) k0) else none else none else (F38_58 fu name d1 n (IntKind.i64.wrap (i + 1)) y k0) else none else (k0 y)

noncomputable def t38_58 (fu n : Nat) : ToldP := fun _ e s K => match e, s with
  | [.str name, .ptr 0 0, .ptr 1 0, .ptr 2 0, .int .i64 i], [.obj [.int .i64 d, .fz zq0 d1 false], .obj [.int .i64 x, .nilslice], .obj [.int .i64 out, .own 3], .row zq1 y] => (match FT.sames zq0 ft5 with | true => (match FT.sames zq1 ft5 with | true => F38_58 fu name d1 n i y (fun o_ => K (.exit 0) (unpackM (bitsM 6 0x30) [.ptr 0 0, .ptr 1 0]) [.obj [.int .i64 (x), .nilslice], .obj [.int .i64 (out), .own 2], .row ft5 o_]) | false => none) | false => none)
  | _, _ => none

noncomputable def pc38_58 (fu : Nat) : Nat → Option ToldP := fun _ => none
theorem e38_58 (fu n : Nat) (R : Type) (K : VExit → UEnv → USt → Option R) (name : ByteArray) (i : Int) (d : Int) (d1 : List (List D)) (x : Int) (out : Int) (y : List (List D)) :
    F38_58 fu name d1 (n + 1) i y (fun o_ => K (.exit 0) (unpackM (bitsM 6 0x30) [.ptr 0 0, .ptr 1 0]) [.obj [.int .i64 (x), .nilslice], .obj [.int .i64 (out), .own 2], .row ft5 o_]) = uexec Try.prog (tb36 fu) 300 (pc38_58 fu) 116 (loopBody (codeAt code38 58)) (unpackM (bitsM 7 0x76) [.str name, .ptr 0 0, .ptr 1 0, .ptr 2 0, .int .i64 i]) [.obj [.int .i64 d, .fz ft5 d1 false], .obj [.int .i64 x, .nilslice], .obj [.int .i64 out, .own 3], .row ft5 y] (loopK 0 [.live (bitsM 7 0x76), .gc, .fzC 0 1 ft5, .ownC 2 1 ft5, .gc] [.live (bitsM 6 0x30), .gc] (pkP (bitsM 7 0x76) (t38_58 fu n)) K) := by kernel_rfl

theorem p38_58 (fu : Nat) : SoundPc Try.prog 0 code38 (pc38_58 fu) := SoundPc.none _ _ _
theorem s38_58 (fu : Nat) : ∀ n, SoundP Try.prog 0 (.loop (loopBody (codeAt code38 58))) (pkP (bitsM 7 0x76) (t38_58 fu n)) := by
  refine loopP_sound (gin := [.live (bitsM 7 0x76), .gc, .fzC 0 1 ft5, .ownC 2 1 ft5, .gc]) (gout := [.live (bitsM 6 0x30), .gc]) (k := 300) (tb36_sound fu) (p38_58 fu) (by decide) a38_58 (fun R e s K => ?_) (fun n R e s K r h => ?_)
  · unfold t38_58; repeat' split
    all_goals rfl
  · unfold t38_58 at h; split at h
    case h_2 => cases h
    split at h
    case h_2 => cases h
    rename_i hq
    have hq := FT.sames_eq _ _ hq
    subst hq
    split at h
    case h_2 => cases h
    rename_i hq
    have hq := FT.sames_eq _ _ hq
    subst hq
    exact (e38_58 fu n R K _ _ _ _ _ _ _).symm.trans h


noncomputable def Fb38 {R : Type} (fu : Nat) (d : List D) (name : ByteArray) (k0 : (List D) → Option R) : Option R :=
  F38_58 fu name (cell 1 d).toRows fu 0 [] fun o_0 => (k0 [D.int ((cell 0 d).toInt), D.row o_0])

noncomputable def F38 {R : Type} (fu : Nat) (d : List D) (name : ByteArray) (k0 : (List D) → Option R) : Option R := shut (@Fb38 R) fu d name k0
theorem F38_eq {R : Type} (fu : Nat) (d : List D) (name : ByteArray) (k0 : (List D) → Option R) : F38 fu d name k0 = Fb38 fu d name k0 := by unfold F38; rw [shut_eq]

noncomputable def pc38 (fu : Nat) : Nat → Option ToldP := fun p => match Nat.beq p 58 with | true => some (ghP 0 [.live (bitsM 7 0x76), .gc, .fzC 0 1 ft5, .ownC 2 1 ft5, .gc] (pkP (bitsM 7 0x76) (t38_58 fu fu))) | false => none
noncomputable def t38 (fu : Nat) : ToldF := fun _ args s K => match args, s with
  | [.agg [.int .i64 q, .fz zq0 q1 false], .str name], [] => (match FT.sames zq0 ft5 with | true => F38 fu [D.int q, D.row q1] name (fun o_ => K (.agg (ofDs 0 ft6 o_)) []) | false => none)
  | _, _ => none

theorem e38 (R : Type) (K : UV → USt → Option R) (fu : Nat) (q : Int) (q1 : List (List D)) (name : ByteArray) :
    F38 fu [D.int q, D.row q1] name (fun o_ => K (.agg (ofDs 0 ft6 o_)) []) = ufun Try.prog ⟨(tb36 fu), pc38 fu⟩ 300 38 [.agg [.int .i64 q, .fz ft5 q1 false], .str name] [] (funK 0 [.fzP 0 [1] ft5, .gc] K) := (F38_eq fu _ _ _).trans (by kernel_rfl)

theorem s38 (fu : Nat) : Tells Try.prog 38 (t38 fu) := by
  refine ufun_sound (T := ⟨(tb36 fu), pc38 fu⟩) (m := 0) (gout := [.fzP 0 [1] ft5, .gc]) (k := 300) (tb36_sound fu) (fun fn body hf hb => ?_) (fun R args s K r h => ?_) (fun R args s K r h => ?_)
  · have hc : body = code38 := by
      have h1 : Try.prog.funcs[38]? = some Try.f38 := rfl
      rw [h1] at hf; cases hf
      have h2 : Try.f38.body = some code38 := rfl
      rw [h2] at hb; cases hb; rfl
    subst hc
    exact fun p told h b hb => by
      replace h : pc38 fu p = some told := h
      unfold pc38 at h
      split at h
      · rename_i hp
        cases h
        have := Nat.eq_of_beq_eq_true hp
        subst this
        rw [a38_58] at hb
        cases hb
        exact ghP_sound (s38_58 fu _)
      ·
        cases h

  · unfold t38 at h; split at h
    · rfl
    · cases h
  · unfold t38 at h; split at h
    case h_2 => cases h
    split at h
    case h_2 => cases h
    rename_i hq
    have hq := FT.sames_eq _ _ hq
    subst hq
    exact (e38 R K fu _ _ _).symm.trans h

noncomputable def tb38 (fu : Nat) : FuncId → Option (Bool × ToldF) := fun f => match Nat.beq f 38 with
  | true => some (false, ghG [.fzP 0 [1] ft5] (t38 fu))
  | false => (tb36 fu) f
theorem tb38_sound (fu : Nat) : SoundF' Try.prog (tb38 fu) := by
  intro f own told h
  unfold tb38 at h
  split at h
  · rename_i hb
    cases h
    have := Nat.eq_of_beq_eq_true hb
    subst this
    exact ghG_sound (s38 fu)
  · exact (tb36_sound fu) f own told h

end Go.Proofs.Ytpaecfhgahheaaa.V

/- Printed by ugen: daisychain/daisychainref03.with -/
namespace Go.Proofs.Ytpaecfhgahheaaa.V
set_option maxRecDepth 100000
set_option maxHeartbeats 4000000


noncomputable def code37 : Code := match Try.f37.body with | some c => c | none => .skip
theorem a37_250 : codeAt code37 250 = some (.loop (loopBody (codeAt code37 250))) := by kernel_rfl
noncomputable def F37_250 {R : Type} (fu : Nat) (d1 : List (List D)) (f : ByteArray) (f1 : List (List D)) (f2 : Int) : Nat → Bool → Int → (List (List D)) → (Bool → (List (List D)) → Option R) → Option R
  | 0, _, _, _, _ => none
  | n + 1, done, i, y, k0 => bif decide (i < ofN d1.length) then bif !done then bif within i d1.length then bif !(strLt (cell 0 (elem i.toNat d1)).toStr f || strEq (cell 0 (elem i.toNat d1)).toStr f) then bif fits (y.length + 1) 48 then bif within i d1.length then bif fits ((y ++ [[D.str f, D.row f1, D.int f2]]).length + 1) 48 then (F37_250 fu d1 f f1 f2 n true (IntKind.i64.wrap (i + 1)) (y ++ [[D.str f, D.row f1, D.int f2]] ++ [[D.str (cell 0 (elem i.toNat d1)).toStr, D.row (cell 1 (elem i.toNat d1)).toRows, D.int (cell 2 (elem i.toNat d1)).toInt]]) k0) else none else none else none else bif within i d1.length then bif fits (y.length + 1) 48 then (F37_250 fu d1 f f1 f2 n done (IntKind.i64.wrap (i + 1)) (y ++ [[D.str (cell 0 (elem i.toNat d1)).toStr, D.row (cell 1 (elem i.toNat d1)).toRows, D.int (cell 2 (elem i.toNat d1)).toInt]]) k0) else none else none else none else bif within i d1.length then bif fits (y.length + 1) 48 then (F37_250 fu d1 f f1 f2 n done (IntKind.i64.wrap (i + 1)) (y ++ [[D.str (cell 0 (elem i.toNat d1)).toStr, D.row (cell 1 (elem i.toNat d1)).toRows, D.int (cell 2 (elem i.toNat d1)).toInt]]) k0) else none else none else (k0 done y)

noncomputable def t37_250 (fu n : Nat) : ToldP := fun _ e s K => match e, s with
  | [.ptr 0 0, .ptr 1 0, .ptr 2 0, .ptr 3 0, .bool done, .int .i64 i], [.obj [.int .i64 d, .fz zq0 d1 false], .obj [.str f, .fz zq1 f1 false, .int .i64 f2], .obj [.int .i64 x, .nilslice], .obj [.int .i64 out, .own 4], .row zq2 y] => (match FT.sames zq0 ft5 with | true => (match FT.sames zq1 ft1 with | true => (match FT.sames zq2 ft5 with | true => F37_250 fu d1 f f1 f2 n done i y (fun o_ o_1 => K (.exit 0) (unpackM (bitsM 7 0x78) [.ptr 0 0, .ptr 1 0, .ptr 2 0, .bool o_]) [.obj [.str (f), .fz ft1 (f1) false, .int .i64 (f2)], .obj [.int .i64 (x), .nilslice], .obj [.int .i64 (out), .own 3], .row ft5 o_1]) | false => none) | false => none) | false => none)
  | _, _ => none

noncomputable def pc37_250 (fu : Nat) : Nat → Option ToldP := fun _ => none
theorem e37_250 (fu n : Nat) (R : Type) (K : VExit → UEnv → USt → Option R) (done : Bool) (i : Int) (d : Int) (d1 : List (List D)) (f : ByteArray) (f1 : List (List D)) (f2 : Int) (x : Int) (out : Int) (y : List (List D)) :
    F37_250 fu d1 f f1 f2 (n + 1) done i y (fun o_ o_1 => K (.exit 0) (unpackM (bitsM 7 0x78) [.ptr 0 0, .ptr 1 0, .ptr 2 0, .bool o_]) [.obj [.str (f), .fz ft1 (f1) false, .int .i64 (f2)], .obj [.int .i64 (x), .nilslice], .obj [.int .i64 (out), .own 3], .row ft5 o_1]) = uexec Try.prog (tb38 fu) 300 (pc37_250 fu) 500 (loopBody (codeAt code37 250)) (unpackM (bitsM 8 0xfc) [.ptr 0 0, .ptr 1 0, .ptr 2 0, .ptr 3 0, .bool done, .int .i64 i]) [.obj [.int .i64 d, .fz ft5 d1 false], .obj [.str f, .fz ft1 f1 false, .int .i64 f2], .obj [.int .i64 x, .nilslice], .obj [.int .i64 out, .own 4], .row ft5 y] (loopK 0 [.live (bitsM 8 0xfc), .gc, .fzC 0 1 ft5, .fzC 1 1 ft1, .ownC 3 1 ft5, .gc] [.live (bitsM 7 0x78), .gc] (pkP (bitsM 8 0xfc) (t37_250 fu n)) K) := by kernel_rfl

theorem p37_250 (fu : Nat) : SoundPc Try.prog 0 code37 (pc37_250 fu) := SoundPc.none _ _ _
theorem s37_250 (fu : Nat) : ∀ n, SoundP Try.prog 0 (.loop (loopBody (codeAt code37 250))) (pkP (bitsM 8 0xfc) (t37_250 fu n)) := by
  refine loopP_sound (gin := [.live (bitsM 8 0xfc), .gc, .fzC 0 1 ft5, .fzC 1 1 ft1, .ownC 3 1 ft5, .gc]) (gout := [.live (bitsM 7 0x78), .gc]) (k := 300) (tb38_sound fu) (p37_250 fu) (by decide) a37_250 (fun R e s K => ?_) (fun n R e s K r h => ?_)
  · unfold t37_250; repeat' split
    all_goals rfl
  · unfold t37_250 at h; split at h
    case h_2 => cases h
    split at h
    case h_2 => cases h
    rename_i hq
    have hq := FT.sames_eq _ _ hq
    subst hq
    split at h
    case h_2 => cases h
    rename_i hq
    have hq := FT.sames_eq _ _ hq
    subst hq
    split at h
    case h_2 => cases h
    rename_i hq
    have hq := FT.sames_eq _ _ hq
    subst hq
    exact (e37_250 fu n R K _ _ _ _ _ _ _ _ _ _).symm.trans h


noncomputable def Fb37 {R : Type} (fu : Nat) (d : List D) (f : List D) (k0 : (List D) → Option R) : Option R :=
  F38 fu [D.int (cell 0 d).toInt, D.row (cell 1 d).toRows] (cell 0 f).toStr fun o_0 => F37_250 fu (cell 1 o_0).toRows (cell 0 f).toStr (cell 1 f).toRows (cell 2 f).toInt fu false 0 [] fun o_1 o_2 => bif !o_1 then bif fits (o_2.length + 1) 48 then (k0 ([D.int ((cell 0 o_0).toInt), D.row (o_2 ++ [[D.str (cell 0 f).toStr, D.row (cell 1 f).toRows, D.int (cell 2 f).toInt]])])) else none else (k0 [D.int ((cell 0 o_0).toInt), D.row o_2])

noncomputable def F37 {R : Type} (fu : Nat) (d : List D) (f : List D) (k0 : (List D) → Option R) : Option R := shut (@Fb37 R) fu d f k0
theorem F37_eq {R : Type} (fu : Nat) (d : List D) (f : List D) (k0 : (List D) → Option R) : F37 fu d f k0 = Fb37 fu d f k0 := by unfold F37; rw [shut_eq]

noncomputable def pc37 (fu : Nat) : Nat → Option ToldP := fun p => match Nat.beq p 250 with | true => some (ghP 0 [.live (bitsM 8 0xfc), .gc, .fzC 0 1 ft5, .fzC 1 1 ft1, .ownC 3 1 ft5, .gc] (pkP (bitsM 8 0xfc) (t37_250 fu fu))) | false => none
noncomputable def t37 (fu : Nat) : ToldF := fun _ args s K => match args, s with
  | [.agg [.int .i64 q, .fz zq0 q1 false], .agg [.str q2, .fz zq1 q3 false, .int .i64 q4]], [] => (match FT.sames zq0 ft5 with | true => (match FT.sames zq1 ft1 with | true => F37 fu [D.int q, D.row q1] [D.str q2, D.row q3, D.int q4] (fun o_ => K (.agg (ofDs 0 ft6 o_)) []) | false => none) | false => none)
  | _, _ => none

theorem e37 (R : Type) (K : UV → USt → Option R) (fu : Nat) (q : Int) (q1 : List (List D)) (q2 : ByteArray) (q3 : List (List D)) (q4 : Int) :
    F37 fu [D.int q, D.row q1] [D.str q2, D.row q3, D.int q4] (fun o_ => K (.agg (ofDs 0 ft6 o_)) []) = ufun Try.prog ⟨(tb38 fu), pc37 fu⟩ 300 37 [.agg [.int .i64 q, .fz ft5 q1 false], .agg [.str q2, .fz ft1 q3 false, .int .i64 q4]] [] (funK 0 [.fzP 0 [1] ft5, .gc] K) := (F37_eq fu _ _ _).trans (by kernel_rfl)

theorem s37 (fu : Nat) : Tells Try.prog 37 (t37 fu) := by
  refine ufun_sound (T := ⟨(tb38 fu), pc37 fu⟩) (m := 0) (gout := [.fzP 0 [1] ft5, .gc]) (k := 300) (tb38_sound fu) (fun fn body hf hb => ?_) (fun R args s K r h => ?_) (fun R args s K r h => ?_)
  · have hc : body = code37 := by
      have h1 : Try.prog.funcs[37]? = some Try.f37 := rfl
      rw [h1] at hf; cases hf
      have h2 : Try.f37.body = some code37 := rfl
      rw [h2] at hb; cases hb; rfl
    subst hc
    exact fun p told h b hb => by
      replace h : pc37 fu p = some told := h
      unfold pc37 at h
      split at h
      · rename_i hp
        cases h
        have := Nat.eq_of_beq_eq_true hp
        subst this
        rw [a37_250] at hb
        cases hb
        exact ghP_sound (s37_250 fu _)
      ·
        cases h

  · unfold t37 at h; split at h
    · rfl
    · cases h
  · unfold t37 at h; split at h
    case h_2 => cases h
    split at h
    case h_2 => cases h
    rename_i hq
    have hq := FT.sames_eq _ _ hq
    subst hq
    split at h
    case h_2 => cases h
    rename_i hq
    have hq := FT.sames_eq _ _ hq
    subst hq
    exact (e37 R K fu _ _ _ _ _).symm.trans h

noncomputable def tb37 (fu : Nat) : FuncId → Option (Bool × ToldF) := fun f => match Nat.beq f 37 with
  | true => some (false, ghG [.fzP 0 [1] ft5, .fzP 1 [1] ft1] (t37 fu))
  | false => (tb38 fu) f
theorem tb37_sound (fu : Nat) : SoundF' Try.prog (tb37 fu) := by
  intro f own told h
  unfold tb37 at h
  split at h
  · rename_i hb
    cases h
    have := Nat.eq_of_beq_eq_true hb
    subst this
    exact ghG_sound (s37 fu)
  · exact (tb38_sound fu) f own told h

end Go.Proofs.Ytpaecfhgahheaaa.V

/- Printed by ugen: daisychain/daisychainref03.crash -/
namespace Go.Proofs.Ytpaecfhgahheaaa.V
set_option maxRecDepth 100000
set_option maxHeartbeats 4000000


noncomputable def code33 : Code := match Try.f33.body with | some c => c | none => .skip
theorem a33_58 : codeAt code33 58 = some (.loop (loopBody (codeAt code33 58))) := by kernel_rfl
noncomputable def F33_58 {R : Type} (fu : Nat) (keep : List (List D)) (d1 : List (List D)) : Nat → Int → (List (List D)) → ((List (List D)) → Option R) → Option R
  | 0, _, _, _ => none
  | n + 1, i, y, k0 => bif decide (i < ofN d1.length) then bif within i d1.length then bif decide (i < ofN keep.length) then bif within i keep.length then bif decide (0 < (cell 0 (elem i.toNat keep)).toInt) then bif within i keep.length then bif decide (IntKind.i64.wrap (IntKind.i64.wrap (ofN (cell 1 (elem i.toNat d1)).toRows.length - (cell 2 (elem i.toNat d1)).toInt) + 1) = 0) then none else bif decide ((0 : Int) ≤ 0 ∧ 0 ≤ IntKind.i64.wrap ((cell 2 (elem i.toNat d1)).toInt + (cell 0 (elem i.toNat keep)).toInt.tmod (IntKind.i64.wrap (IntKind.i64.wrap (ofN (cell 1 (elem i.toNat d1)).toRows.length - (cell 2 (elem i.toNat d1)).toInt) + 1)))) && upTo (IntKind.i64.wrap ((cell 2 (elem i.toNat d1)).toInt + (cell 0 (elem i.toNat keep)).toInt.tmod (IntKind.i64.wrap (IntKind.i64.wrap (ofN (cell 1 (elem i.toNat d1)).toRows.length - (cell 2 (elem i.toNat d1)).toInt) + 1)))) (cell 1 (elem i.toNat d1)).toRows.length then bif fits (0 + (part (cell 1 (elem i.toNat d1)).toRows 0 (IntKind.i64.wrap ((cell 2 (elem i.toNat d1)).toInt + (cell 0 (elem i.toNat keep)).toInt.tmod (IntKind.i64.wrap (IntKind.i64.wrap (ofN (cell 1 (elem i.toNat d1)).toRows.length - (cell 2 (elem i.toNat d1)).toInt) + 1)))).toNat).length) 1 then bif fits (y.length + 1) 48 then (F33_58 fu keep d1 n (IntKind.i64.wrap (i + 1)) (y ++ [[D.str (cell 0 (elem i.toNat d1)).toStr, D.row (part (cell 1 (elem i.toNat d1)).toRows 0 (IntKind.i64.wrap ((cell 2 (elem i.toNat d1)).toInt + (cell 0 (elem i.toNat keep)).toInt.tmod (IntKind.i64.wrap (IntKind.i64.wrap (ofN (cell 1 (elem i.toNat d1)).toRows.length - (cell 2 (elem i.toNat d1)).toInt) + 1)))).toNat), D.int (IntKind.i64.wrap ((cell 2 (elem i.toNat d1)).toInt + (cell 0 (elem i.toNat keep)).toInt.tmod (IntKind.i64.wrap (IntKind.i64.wrap (ofN (cell 1 (elem i.toNat d1)).toRows.length - (cell 2 (elem i.toNat d1)).toInt) + 1))))]]) k0) else none else none else none else none else bif decide ((0 : Int) ≤ 0 ∧ 0 ≤ (cell 2 (elem i.toNat d1)).toInt) && upTo (cell 2 (elem i.toNat d1)).toInt (cell 1 (elem i.toNat d1)).toRows.length then bif fits (0 + (part (cell 1 (elem i.toNat d1)).toRows 0 (cell 2 (elem i.toNat d1)).toInt.toNat).length) 1 then bif fits (y.length + 1) 48 then (F33_58 fu keep d1 n (IntKind.i64.wrap (i + 1)) (y ++ [[D.str (cell 0 (elem i.toNat d1)).toStr, D.row (part (cell 1 (elem i.toNat d1)).toRows 0 (cell 2 (elem i.toNat d1)).toInt.toNat), D.int (cell 2 (elem i.toNat d1)).toInt]]) k0) else none else none else none else none else bif decide ((0 : Int) ≤ 0 ∧ 0 ≤ (cell 2 (elem i.toNat d1)).toInt) && upTo (cell 2 (elem i.toNat d1)).toInt (cell 1 (elem i.toNat d1)).toRows.length then bif fits (0 + (part (cell 1 (elem i.toNat d1)).toRows 0 (cell 2 (elem i.toNat d1)).toInt.toNat).length) 1 then bif fits (y.length + 1) 48 then (F33_58 fu keep d1 n (IntKind.i64.wrap (i + 1)) (y ++ [[D.str (cell 0 (elem i.toNat d1)).toStr, D.row (part (cell 1 (elem i.toNat d1)).toRows 0 (cell 2 (elem i.toNat d1)).toInt.toNat), D.int (cell 2 (elem i.toNat d1)).toInt]]) k0) else none else none else none else none else (k0 y)

noncomputable def t33_58 (fu n : Nat) : ToldP := fun _ e s K => match e, s with
  | [.fz zq0 keep false, .ptr 0 0, .ptr 1 0, .ptr 2 0, .int .i64 i], [.obj [.int .i64 d, .fz zq1 d1 false], .obj [.int .i64 x, .nilslice], .obj [.int .i64 out, .own 3], .row zq2 y] => (match FT.sames zq0 ft3 with | true => (match FT.sames zq1 ft5 with | true => (match FT.sames zq2 ft5 with | true => F33_58 fu keep d1 n i y (fun o_ => K (.exit 0) (unpackM (bitsM 6 0x30) [.ptr 0 0, .ptr 1 0]) [.obj [.int .i64 (x), .nilslice], .obj [.int .i64 (out), .own 2], .row ft5 o_]) | false => none) | false => none) | false => none)
  | _, _ => none

noncomputable def pc33_58 (fu : Nat) : Nat → Option ToldP := fun _ => none
theorem e33_58 (fu n : Nat) (R : Type) (K : VExit → UEnv → USt → Option R) (keep : List (List D)) (i : Int) (d : Int) (d1 : List (List D)) (x : Int) (out : Int) (y : List (List D)) :
    F33_58 fu keep d1 (n + 1) i y (fun o_ => K (.exit 0) (unpackM (bitsM 6 0x30) [.ptr 0 0, .ptr 1 0]) [.obj [.int .i64 (x), .nilslice], .obj [.int .i64 (out), .own 2], .row ft5 o_]) = uexec Try.prog (tb37 fu) 300 (pc33_58 fu) 116 (loopBody (codeAt code33 58)) (unpackM (bitsM 7 0x76) [.fz ft3 keep false, .ptr 0 0, .ptr 1 0, .ptr 2 0, .int .i64 i]) [.obj [.int .i64 d, .fz ft5 d1 false], .obj [.int .i64 x, .nilslice], .obj [.int .i64 out, .own 3], .row ft5 y] (loopK 0 [.live (bitsM 7 0x76), .fzP 1 [] ft3, .gc, .fzC 0 1 ft5, .ownC 2 1 ft5, .gc] [.live (bitsM 6 0x30), .gc] (pkP (bitsM 7 0x76) (t33_58 fu n)) K) := by kernel_rfl

theorem p33_58 (fu : Nat) : SoundPc Try.prog 0 code33 (pc33_58 fu) := SoundPc.none _ _ _
theorem s33_58 (fu : Nat) : ∀ n, SoundP Try.prog 0 (.loop (loopBody (codeAt code33 58))) (pkP (bitsM 7 0x76) (t33_58 fu n)) := by
  refine loopP_sound (gin := [.live (bitsM 7 0x76), .fzP 1 [] ft3, .gc, .fzC 0 1 ft5, .ownC 2 1 ft5, .gc]) (gout := [.live (bitsM 6 0x30), .gc]) (k := 300) (tb37_sound fu) (p33_58 fu) (by decide) a33_58 (fun R e s K => ?_) (fun n R e s K r h => ?_)
  · unfold t33_58; repeat' split
    all_goals rfl
  · unfold t33_58 at h; split at h
    case h_2 => cases h
    split at h
    case h_2 => cases h
    rename_i hq
    have hq := FT.sames_eq _ _ hq
    subst hq
    split at h
    case h_2 => cases h
    rename_i hq
    have hq := FT.sames_eq _ _ hq
    subst hq
    split at h
    case h_2 => cases h
    rename_i hq
    have hq := FT.sames_eq _ _ hq
    subst hq
    exact (e33_58 fu n R K _ _ _ _ _ _ _).symm.trans h


noncomputable def Fb33 {R : Type} (fu : Nat) (d : List D) (keep : List (List D)) (k0 : (List D) → Option R) : Option R :=
  F33_58 fu keep (cell 1 d).toRows fu 0 [] fun o_0 => (k0 [D.int ((cell 0 d).toInt), D.row o_0])

noncomputable def F33 {R : Type} (fu : Nat) (d : List D) (keep : List (List D)) (k0 : (List D) → Option R) : Option R := shut (@Fb33 R) fu d keep k0
theorem F33_eq {R : Type} (fu : Nat) (d : List D) (keep : List (List D)) (k0 : (List D) → Option R) : F33 fu d keep k0 = Fb33 fu d keep k0 := by unfold F33; rw [shut_eq]

noncomputable def pc33 (fu : Nat) : Nat → Option ToldP := fun p => match Nat.beq p 58 with | true => some (ghP 0 [.live (bitsM 7 0x76), .fzP 1 [] ft3, .gc, .fzC 0 1 ft5, .ownC 2 1 ft5, .gc] (pkP (bitsM 7 0x76) (t33_58 fu fu))) | false => none
noncomputable def t33 (fu : Nat) : ToldF := fun _ args s K => match args, s with
  | [.agg [.int .i64 q, .fz zq0 q1 false], .fz zq1 keep false], [] => (match FT.sames zq0 ft5 with | true => (match FT.sames zq1 ft3 with | true => F33 fu [D.int q, D.row q1] keep (fun o_ => K (.agg (ofDs 0 ft6 o_)) []) | false => none) | false => none)
  | _, _ => none

theorem e33 (R : Type) (K : UV → USt → Option R) (fu : Nat) (q : Int) (q1 : List (List D)) (keep : List (List D)) :
    F33 fu [D.int q, D.row q1] keep (fun o_ => K (.agg (ofDs 0 ft6 o_)) []) = ufun Try.prog ⟨(tb37 fu), pc33 fu⟩ 300 33 [.agg [.int .i64 q, .fz ft5 q1 false], .fz ft3 keep false] [] (funK 0 [.fzP 0 [1] ft5, .gc] K) := (F33_eq fu _ _ _).trans (by kernel_rfl)

theorem s33 (fu : Nat) : Tells Try.prog 33 (t33 fu) := by
  refine ufun_sound (T := ⟨(tb37 fu), pc33 fu⟩) (m := 0) (gout := [.fzP 0 [1] ft5, .gc]) (k := 300) (tb37_sound fu) (fun fn body hf hb => ?_) (fun R args s K r h => ?_) (fun R args s K r h => ?_)
  · have hc : body = code33 := by
      have h1 : Try.prog.funcs[33]? = some Try.f33 := rfl
      rw [h1] at hf; cases hf
      have h2 : Try.f33.body = some code33 := rfl
      rw [h2] at hb; cases hb; rfl
    subst hc
    exact fun p told h b hb => by
      replace h : pc33 fu p = some told := h
      unfold pc33 at h
      split at h
      · rename_i hp
        cases h
        have := Nat.eq_of_beq_eq_true hp
        subst this
        rw [a33_58] at hb
        cases hb
        exact ghP_sound (s33_58 fu _)
      ·
        cases h

  · unfold t33 at h; split at h
    · rfl
    · cases h
  · unfold t33 at h; split at h
    case h_2 => cases h
    split at h
    case h_2 => cases h
    rename_i hq
    have hq := FT.sames_eq _ _ hq
    subst hq
    split at h
    case h_2 => cases h
    rename_i hq
    have hq := FT.sames_eq _ _ hq
    subst hq
    exact (e33 R K fu _ _ _).symm.trans h

noncomputable def tb33 (fu : Nat) : FuncId → Option (Bool × ToldF) := fun f => match Nat.beq f 33 with
  | true => some (false, ghG [.fzP 0 [1] ft5, .fzP 1 [] ft3] (t33 fu))
  | false => (tb37 fu) f
theorem tb33_sound (fu : Nat) : SoundF' Try.prog (tb33 fu) := by
  intro f own told h
  unfold tb33 at h
  split at h
  · rename_i hb
    cases h
    have := Nat.eq_of_beq_eq_true hb
    subst this
    exact ghG_sound (s33 fu)
  · exact (tb37_sound fu) f own told h

end Go.Proofs.Ytpaecfhgahheaaa.V

/- Printed by ugen: daisychain/daisychainref03.Do -/
namespace Go.Proofs.Ytpaecfhgahheaaa.V
set_option maxRecDepth 100000
set_option maxHeartbeats 4000000


noncomputable def code23 : Code := match Try.f23.body with | some c => c | none => .skip

noncomputable def Fb23 {R : Type} (fu : Nat) (d : List D) (o_ : List D) (k0 : (List D) → Int → Option R) : Option R :=
  bif decide ((cell 0 o_).toInt = 5) then F33 fu [D.int (cell 0 d).toInt, D.row (cell 1 d).toRows] (cell 5 o_).toRows fun o_0 => (k0 o_0 0) else F34 fu [D.int (cell 0 d).toInt, D.row (cell 1 d).toRows] (cell 1 o_).toStr fun o_1 => bif decide (0 ≤ o_1) then bif within o_1 (cell 1 d).toRows.length then bif decide ((cell 0 o_).toInt = 0) then F35 fu (cell 1 o_).toStr fun o_2 => bif !o_2 then (k0 d 1) else F36 fu [D.int (cell 0 d).toInt, D.row (cell 1 d).toRows] fun o_3 => bif decide ((cell 0 d).toInt < IntKind.i64.wrap (o_3 + ofN (cell 3 o_).toRows.length)) then (k0 d 5) else bif fits (0 + (cell 1 (elem o_1.toNat (cell 1 d).toRows)).toRows.length) 1 then bif fits ((cell 1 (elem o_1.toNat (cell 1 d).toRows)).toRows.length + (cell 3 o_).toRows.length) 1 then F37 fu [D.int (cell 0 d).toInt, D.row (cell 1 d).toRows] [D.str (cell 0 (elem o_1.toNat (cell 1 d).toRows)).toStr, D.row ((cell 1 (elem o_1.toNat (cell 1 d).toRows)).toRows ++ (cell 3 o_).toRows), D.int (cell 2 (elem o_1.toNat (cell 1 d).toRows)).toInt] fun o_4 => (k0 o_4 0) else none else none else bif decide (o_1 < 0) then (k0 d 6) else bif decide ((cell 0 o_).toInt = 1) then F37 fu [D.int (cell 0 d).toInt, D.row (cell 1 d).toRows] [D.str (cell 0 (elem o_1.toNat (cell 1 d).toRows)).toStr, D.row (cell 1 (elem o_1.toNat (cell 1 d).toRows)).toRows, D.int (ofN (cell 1 (elem o_1.toNat (cell 1 d).toRows)).toRows.length)] fun o_5 => (k0 o_5 0) else bif decide ((cell 0 o_).toInt = 2) then bif decide ((cell 4 o_).toInt < 0) then (k0 d 1) else bif decide (ofN (cell 1 (elem o_1.toNat (cell 1 d).toRows)).toRows.length < (cell 4 o_).toInt) then (k0 d 1) else bif decide ((0 : Int) ≤ 0 ∧ 0 ≤ (cell 4 o_).toInt) && upTo (cell 4 o_).toInt (cell 1 (elem o_1.toNat (cell 1 d).toRows)).toRows.length then bif fits (0 + (part (cell 1 (elem o_1.toNat (cell 1 d).toRows)).toRows 0 (cell 4 o_).toInt.toNat).length) 1 then F37 fu [D.int (cell 0 d).toInt, D.row (cell 1 d).toRows] [D.str (cell 0 (elem o_1.toNat (cell 1 d).toRows)).toStr, D.row (part (cell 1 (elem o_1.toNat (cell 1 d).toRows)).toRows 0 (cell 4 o_).toInt.toNat), D.int (cell 4 o_).toInt] fun o_6 => (k0 o_6 0) else none else none else bif decide ((cell 0 o_).toInt = 3) then F38 fu [D.int (cell 0 d).toInt, D.row (cell 1 d).toRows] (cell 1 o_).toStr fun o_7 => (k0 o_7 0) else F35 fu (cell 2 o_).toStr fun o_8 => bif !o_8 then (k0 d 1) else bif strEq (cell 2 o_).toStr (cell 1 o_).toStr then (k0 d 0) else F38 fu [D.int (cell 0 d).toInt, D.row (cell 1 d).toRows] (cell 1 o_).toStr fun o_9 => F37 fu [D.int (cell 0 o_9).toInt, D.row (cell 1 o_9).toRows] [D.str (cell 2 o_).toStr, D.row (cell 1 (elem o_1.toNat (cell 1 d).toRows)).toRows, D.int (ofN (cell 1 (elem o_1.toNat (cell 1 d).toRows)).toRows.length)] fun o_10 => (k0 o_10 0) else none else bif decide ((cell 0 o_).toInt = 0) then F35 fu (cell 1 o_).toStr fun o_11 => bif !o_11 then (k0 d 1) else F36 fu [D.int (cell 0 d).toInt, D.row (cell 1 d).toRows] fun o_12 => bif decide ((cell 0 d).toInt < IntKind.i64.wrap (o_12 + ofN (cell 3 o_).toRows.length)) then (k0 d 5) else bif fits (0 + (cell 3 o_).toRows.length) 1 then F37 fu [D.int (cell 0 d).toInt, D.row (cell 1 d).toRows] [D.str (cell 1 o_).toStr, D.row (cell 3 o_).toRows, D.int 0] fun o_13 => (k0 o_13 0) else none else bif decide (o_1 < 0) then (k0 d 6) else bif decide ((cell 0 o_).toInt = 1) then F37 fu [D.int (cell 0 d).toInt, D.row (cell 1 d).toRows] [D.str (cell 1 o_).toStr, D.row [], D.int 0] fun o_14 => (k0 o_14 0) else bif decide ((cell 0 o_).toInt = 2) then bif decide ((cell 4 o_).toInt < 0) then (k0 d 1) else bif decide (0 < (cell 4 o_).toInt) then (k0 d 1) else bif decide ((0 : Int) = 0 ∧ (cell 4 o_).toInt = 0 ∧ (0 : Int) = 0) then F37 fu [D.int (cell 0 d).toInt, D.row (cell 1 d).toRows] [D.str (cell 1 o_).toStr, D.row [], D.int (cell 4 o_).toInt] fun o_15 => (k0 o_15 0) else none else bif decide ((cell 0 o_).toInt = 3) then F38 fu [D.int (cell 0 d).toInt, D.row (cell 1 d).toRows] (cell 1 o_).toStr fun o_16 => (k0 o_16 0) else F35 fu (cell 2 o_).toStr fun o_17 => bif !o_17 then (k0 d 1) else bif strEq (cell 2 o_).toStr (cell 1 o_).toStr then (k0 d 0) else F38 fu [D.int (cell 0 d).toInt, D.row (cell 1 d).toRows] (cell 1 o_).toStr fun o_18 => F37 fu [D.int (cell 0 o_18).toInt, D.row (cell 1 o_18).toRows] [D.str (cell 2 o_).toStr, D.row [], D.int 0] fun o_19 => (k0 o_19 0)

noncomputable def F23 {R : Type} (fu : Nat) (d : List D) (o_ : List D) (k0 : (List D) → Int → Option R) : Option R := shut (@Fb23 R) fu d o_ k0
theorem F23_eq {R : Type} (fu : Nat) (d : List D) (o_ : List D) (k0 : (List D) → Int → Option R) : F23 fu d o_ k0 = Fb23 fu d o_ k0 := by unfold F23; rw [shut_eq]

noncomputable def pc23 (fu : Nat) : Nat → Option ToldP := fun _ => none
noncomputable def t23 (fu : Nat) : ToldF := fun _ args s K => match args, s with
  | [.agg [.int .i64 q, .fz zq0 q1 false], .agg [.int .i64 q2, .str q3, .str q4, .fz zq1 q5 false, .int .i64 q6, .fz zq2 q7 false]], [] => (match FT.sames zq0 ft5 with | true => (match FT.sames zq1 ft1 with | true => (match FT.sames zq2 ft3 with | true => F23 fu [D.int q, D.row q1] [D.int q2, D.str q3, D.str q4, D.row q5, D.int q6, D.row q7] (fun o_ o_1 => K (.tuple [.agg (ofDs 0 ft6 o_), .int .i64 o_1]) []) | false => none) | false => none) | false => none)
  | _, _ => none

theorem e23 (R : Type) (K : UV → USt → Option R) (fu : Nat) (q : Int) (q1 : List (List D)) (q2 : Int) (q3 : ByteArray) (q4 : ByteArray) (q5 : List (List D)) (q6 : Int) (q7 : List (List D)) :
    F23 fu [D.int q, D.row q1] [D.int q2, D.str q3, D.str q4, D.row q5, D.int q6, D.row q7] (fun o_ o_1 => K (.tuple [.agg (ofDs 0 ft6 o_), .int .i64 o_1]) []) = ufun Try.prog ⟨(tb33 fu), pc23 fu⟩ 300 23 [.agg [.int .i64 q, .fz ft5 q1 false], .agg [.int .i64 q2, .str q3, .str q4, .fz ft1 q5 false, .int .i64 q6, .fz ft3 q7 false]] [] (funK 0 [.fzP 0 [0, 1] ft5, .gc] K) := (F23_eq fu _ _ _).trans (by kernel_rfl)

theorem s23 (fu : Nat) : Tells Try.prog 23 (t23 fu) := by
  refine ufun_sound (T := ⟨(tb33 fu), pc23 fu⟩) (m := 0) (gout := [.fzP 0 [0, 1] ft5, .gc]) (k := 300) (tb33_sound fu) (fun fn body hf hb => ?_) (fun R args s K r h => ?_) (fun R args s K r h => ?_)
  · have hc : body = code23 := by
      have h1 : Try.prog.funcs[23]? = some Try.f23 := rfl
      rw [h1] at hf; cases hf
      have h2 : Try.f23.body = some code23 := rfl
      rw [h2] at hb; cases hb; rfl
    subst hc
    exact SoundPc.none _ _ _
  · unfold t23 at h; split at h
    · rfl
    · cases h
  · unfold t23 at h; split at h
    case h_2 => cases h
    split at h
    case h_2 => cases h
    rename_i hq
    have hq := FT.sames_eq _ _ hq
    subst hq
    split at h
    case h_2 => cases h
    rename_i hq
    have hq := FT.sames_eq _ _ hq
    subst hq
    split at h
    case h_2 => cases h
    rename_i hq
    have hq := FT.sames_eq _ _ hq
    subst hq
    exact (e23 R K fu _ _ _ _ _ _ _ _).symm.trans h

noncomputable def tb23 (fu : Nat) : FuncId → Option (Bool × ToldF) := fun f => match Nat.beq f 23 with
  | true => some (false, ghG [.fzP 0 [1] ft5, .fzP 1 [3] ft1, .fzP 1 [5] ft3] (t23 fu))
  | false => (tb33 fu) f
theorem tb23_sound (fu : Nat) : SoundF' Try.prog (tb23 fu) := by
  intro f own told h
  unfold tb23 at h
  split at h
  · rename_i hb
    cases h
    have := Nat.eq_of_beq_eq_true hb
    subst this
    exact ghG_sound (s23 fu)
  · exact (tb33_sound fu) f own told h

end Go.Proofs.Ytpaecfhgahheaaa.V

/- Printed by ugen: daisychain/daisychainlaw03.Do -/
namespace Go.Proofs.Ytpaecfhgahheaaa.V
set_option maxRecDepth 100000
set_option maxHeartbeats 4000000


noncomputable def code24 : Code := match Try.f24.body with | some c => c | none => .skip

noncomputable def Fb24 {R : Type} (fu : Nat) (o_ : List D) (d_room : Int) (d_files : List (D × List D)) (k0 : Int → (List (D × List D)) → Option R) : Option R :=
  bif decide ((cell 0 o_).toInt = 0) then F12 fu (cell 1 o_).toStr (cell 3 o_).toRows d_room d_files fun o_0 o_1 => (k0 o_0 o_1) else bif decide ((cell 0 o_).toInt = 1) then F27 fu (cell 1 o_).toStr d_room d_files fun o_2 o_3 => (k0 o_2 o_3) else bif decide ((cell 0 o_).toInt = 2) then F14 fu (cell 1 o_).toStr (cell 4 o_).toInt d_room d_files fun o_4 o_5 => (k0 o_4 o_5) else bif decide ((cell 0 o_).toInt = 3) then F39 fu (cell 1 o_).toStr d_room d_files fun o_6 o_7 => (k0 o_6 o_7) else bif decide ((cell 0 o_).toInt = 5) then F17 fu (cell 5 o_).toRows d_room d_files fun o_8 => (k0 0 o_8) else F19 fu (cell 1 o_).toStr (cell 2 o_).toStr d_room d_files fun o_9 o_10 => (k0 o_9 o_10)

noncomputable def F24 {R : Type} (fu : Nat) (o_ : List D) (d_room : Int) (d_files : List (D × List D)) (k0 : Int → (List (D × List D)) → Option R) : Option R := shut (@Fb24 R) fu o_ d_room d_files k0
theorem F24_eq {R : Type} (fu : Nat) (o_ : List D) (d_room : Int) (d_files : List (D × List D)) (k0 : Int → (List (D × List D)) → Option R) : F24 fu o_ d_room d_files k0 = Fb24 fu o_ d_room d_files k0 := by unfold F24; rw [shut_eq]

noncomputable def pc24 (fu : Nat) : Nat → Option ToldP := fun _ => none
noncomputable def t24 (fu : Nat) : ToldF := fun _ args s K => match args, s with
  | [.ptr 0 0, .agg [.int .i64 q, .str q1, .str q2, .fz zq0 q3 false, .int .i64 q4, .fz zq1 q5 false]], [.obj [.int .i64 d_room, .map 1], .map .str true zq2 d_files] => (match FT.sames zq0 ft1 with | true => (match FT.sames zq1 ft3 with | true => (match FT.sames zq2 ft0 with | true => F24 fu [D.int q, D.str q1, D.str q2, D.row q3, D.int q4, D.row q5] d_room d_files (fun o_ o_1 => K (.int .i64 o_) [.obj [.int .i64 (d_room), .map 1], .map .str true ft0 o_1]) | false => none) | false => none) | false => none)
  | _, _ => none

theorem e24 (R : Type) (K : UV → USt → Option R) (fu : Nat) (q : Int) (q1 : ByteArray) (q2 : ByteArray) (q3 : List (List D)) (q4 : Int) (q5 : List (List D)) (d_room : Int) (d_files : List (D × List D)) :
    F24 fu [D.int q, D.str q1, D.str q2, D.row q3, D.int q4, D.row q5] d_room d_files (fun o_ o_1 => K (.int .i64 o_) [.obj [.int .i64 (d_room), .map 1], .map .str true ft0 o_1]) = ufun Try.prog ⟨(tb23 fu), pc24 fu⟩ 300 24 [.ptr 0 0, .agg [.int .i64 q, .str q1, .str q2, .fz ft1 q3 false, .int .i64 q4, .fz ft3 q5 false]] [.obj [.int .i64 d_room, .map 1], .map .str true ft0 d_files] (funK 2 [.gc] K) := (F24_eq fu _ _ _ _).trans (by kernel_rfl)

theorem s24 (fu : Nat) : Tells Try.prog 24 (t24 fu) := by
  refine ufun_sound (T := ⟨(tb23 fu), pc24 fu⟩) (m := 2) (gout := [.gc]) (k := 300) (tb23_sound fu) (fun fn body hf hb => ?_) (fun R args s K r h => ?_) (fun R args s K r h => ?_)
  · have hc : body = code24 := by
      have h1 : Try.prog.funcs[24]? = some Try.f24 := rfl
      rw [h1] at hf; cases hf
      have h2 : Try.f24.body = some code24 := rfl
      rw [h2] at hb; cases hb; rfl
    subst hc
    exact SoundPc.none _ _ _
  · unfold t24 at h; split at h
    · rfl
    · cases h
  · unfold t24 at h; split at h
    case h_2 => cases h
    split at h
    case h_2 => cases h
    rename_i hq
    have hq := FT.sames_eq _ _ hq
    subst hq
    split at h
    case h_2 => cases h
    rename_i hq
    have hq := FT.sames_eq _ _ hq
    subst hq
    split at h
    case h_2 => cases h
    rename_i hq
    have hq := FT.sames_eq _ _ hq
    subst hq
    exact (e24 R K fu _ _ _ _ _ _ _ _).symm.trans h

noncomputable def tb24 (fu : Nat) : FuncId → Option (Bool × ToldF) := fun f => match Nat.beq f 24 with
  | true => some (false, ghG [.fzP 1 [3] ft1, .fzP 1 [5] ft3, .gc, .gc] (t24 fu))
  | false => (tb23 fu) f
theorem tb24_sound (fu : Nat) : SoundF' Try.prog (tb24 fu) := by
  intro f own told h
  unfold tb24 at h
  split at h
  · rename_i hb
    cases h
    have := Nat.eq_of_beq_eq_true hb
    subst this
    exact ghG_sound (s24 fu)
  · exact (tb23_sound fu) f own told h

end Go.Proofs.Ytpaecfhgahheaaa.V

/- Printed by ugen: daisychain/daisychainlaw03.few -/
namespace Go.Proofs.Ytpaecfhgahheaaa.V
set_option maxRecDepth 100000
set_option maxHeartbeats 4000000


noncomputable def code21 : Code := match Try.f21.body with | some c => c | none => .skip
theorem a21_58 : codeAt code21 58 = some (.loop (loopBody (codeAt code21 58))) := by kernel_rfl
noncomputable def F21_58 {R : Type} (fu : Nat) (l : List (List D)) : Nat → Int → Int → (Int → Option R) → Option R
  | 0, _, _, _ => none
  | n + 1, n_, k_, k0 => bif decide (k_ < ofN l.length) then bif decide (k_ ≤ 60) then bif within k_ l.length then bif within k_ l.length then bif within k_ l.length then (F21_58 fu l n (IntKind.i64.wrap (n_ + IntKind.i64.wrap (IntKind.i64.wrap (ofN (cell 3 (elem k_.toNat l)).toRows.length + ofN (cell 1 (elem k_.toNat l)).toStr.size) + ofN (cell 2 (elem k_.toNat l)).toStr.size))) (IntKind.i64.wrap (k_ + 1)) k0) else none else none else none else (k0 n_) else (k0 n_)

noncomputable def t21_58 (fu n : Nat) : ToldP := fun _ e s K => match e, s with
  | [.fz zq0 l false, .int .i64 n_, .int .i64 k_], [] => (match FT.sames zq0 ft7 with | true => F21_58 fu l n n_ k_ (fun o_ => K (.exit 0) (unpackM (bitsM 4 0x9) [.fz ft7 (l) false, .int .i64 o_]) []) | false => none)
  | _, _ => none

noncomputable def pc21_58 (fu : Nat) : Nat → Option ToldP := fun _ => none
theorem e21_58 (fu n : Nat) (R : Type) (K : VExit → UEnv → USt → Option R) (l : List (List D)) (n_ : Int) (k_ : Int) :
    F21_58 fu l (n + 1) n_ k_ (fun o_ => K (.exit 0) (unpackM (bitsM 4 0x9) [.fz ft7 (l) false, .int .i64 o_]) []) = uexec Try.prog (tb24 fu) 300 (pc21_58 fu) 116 (loopBody (codeAt code21 58)) (unpackM (bitsM 5 0x19) [.fz ft7 l false, .int .i64 n_, .int .i64 k_]) [] (loopK 0 [.live (bitsM 5 0x19), .fzP 0 [] ft7, .gc] [.live (bitsM 4 0xd), .gc] (pkP (bitsM 5 0x19) (t21_58 fu n)) K) := by kernel_rfl

theorem p21_58 (fu : Nat) : SoundPc Try.prog 0 code21 (pc21_58 fu) := SoundPc.none _ _ _
theorem s21_58 (fu : Nat) : ∀ n, SoundP Try.prog 0 (.loop (loopBody (codeAt code21 58))) (pkP (bitsM 5 0x19) (t21_58 fu n)) := by
  refine loopP_sound (gin := [.live (bitsM 5 0x19), .fzP 0 [] ft7, .gc]) (gout := [.live (bitsM 4 0xd), .gc]) (k := 300) (tb24_sound fu) (p21_58 fu) (by decide) a21_58 (fun R e s K => ?_) (fun n R e s K r h => ?_)
  · unfold t21_58; repeat' split
    all_goals rfl
  · unfold t21_58 at h; split at h
    case h_2 => cases h
    split at h
    case h_2 => cases h
    rename_i hq
    have hq := FT.sames_eq _ _ hq
    subst hq
    exact (e21_58 fu n R K _ _ _).symm.trans h


noncomputable def Fb21 {R : Type} (fu : Nat) (l : List (List D)) (k0 : Bool → Option R) : Option R :=
  F21_58 fu l fu 0 0 fun o_0 => bif decide (ofN l.length ≤ 60) then (k0 (decide (o_0 ≤ 3000))) else (k0 false)

noncomputable def F21 {R : Type} (fu : Nat) (l : List (List D)) (k0 : Bool → Option R) : Option R := shut (@Fb21 R) fu l k0
theorem F21_eq {R : Type} (fu : Nat) (l : List (List D)) (k0 : Bool → Option R) : F21 fu l k0 = Fb21 fu l k0 := by unfold F21; rw [shut_eq]

noncomputable def pc21 (fu : Nat) : Nat → Option ToldP := fun p => match Nat.beq p 58 with | true => some (ghP 0 [.live (bitsM 5 0x19), .fzP 0 [] ft7, .gc] (pkP (bitsM 5 0x19) (t21_58 fu fu))) | false => none
noncomputable def t21 (fu : Nat) : ToldF := fun _ args s K => match args, s with
  | [.fz zq0 l false], [] => (match FT.sames zq0 ft7 with | true => F21 fu l (fun o_ => K (.bool o_) []) | false => none)
  | _, _ => none

theorem e21 (R : Type) (K : UV → USt → Option R) (fu : Nat) (l : List (List D)) :
    F21 fu l (fun o_ => K (.bool o_) []) = ufun Try.prog ⟨(tb24 fu), pc21 fu⟩ 300 21 [.fz ft7 l false] [] (funK 0 [.gc] K) := (F21_eq fu _ _).trans (by kernel_rfl)

theorem s21 (fu : Nat) : Tells Try.prog 21 (t21 fu) := by
  refine ufun_sound (T := ⟨(tb24 fu), pc21 fu⟩) (m := 0) (gout := [.gc]) (k := 300) (tb24_sound fu) (fun fn body hf hb => ?_) (fun R args s K r h => ?_) (fun R args s K r h => ?_)
  · have hc : body = code21 := by
      have h1 : Try.prog.funcs[21]? = some Try.f21 := rfl
      rw [h1] at hf; cases hf
      have h2 : Try.f21.body = some code21 := rfl
      rw [h2] at hb; cases hb; rfl
    subst hc
    exact fun p told h b hb => by
      replace h : pc21 fu p = some told := h
      unfold pc21 at h
      split at h
      · rename_i hp
        cases h
        have := Nat.eq_of_beq_eq_true hp
        subst this
        rw [a21_58] at hb
        cases hb
        exact ghP_sound (s21_58 fu _)
      ·
        cases h

  · unfold t21 at h; split at h
    · rfl
    · cases h
  · unfold t21 at h; split at h
    case h_2 => cases h
    split at h
    case h_2 => cases h
    rename_i hq
    have hq := FT.sames_eq _ _ hq
    subst hq
    exact (e21 R K fu _).symm.trans h

noncomputable def tb21 (fu : Nat) : FuncId → Option (Bool × ToldF) := fun f => match Nat.beq f 21 with
  | true => some (false, ghG [.fzP 0 [] ft7] (t21 fu))
  | false => (tb24 fu) f
theorem tb21_sound (fu : Nat) : SoundF' Try.prog (tb21 fu) := by
  intro f own told h
  unfold tb21 at h
  split at h
  · rename_i hb
    cases h
    have := Nat.eq_of_beq_eq_true hb
    subst this
    exact ghG_sound (s21 fu)
  · exact (tb24_sound fu) f own told h

end Go.Proofs.Ytpaecfhgahheaaa.V

/- Printed by ugen: daisychain/daisychainlaw03.Same -/
namespace Go.Proofs.Ytpaecfhgahheaaa.V
set_option maxRecDepth 100000
set_option maxHeartbeats 4000000


noncomputable def code25 : Code := match Try.f25.body with | some c => c | none => .skip
theorem a25_122 : codeAt code25 122 = some (.loop (loopBody (codeAt code25 122))) := by kernel_rfl
noncomputable def F25_122 {R : Type} (fu : Nat) (x : List (List D)) (x1 : Int) (d : Int) (y : List (D × List D)) (names : List (List D)) : Nat → Int → (Option R) → (Option R) → Option R
  | 0, _, _, _ => none
  | n + 1, x2, k0, k1 => bif decide (x2 < x1) then bif within x2 x.length then F16 fu (cell 0 (elem x2.toNat x)).toStr d y fun o_0 o_1 => bif within x2 names.length then bif !strEq (cell 0 (elem x2.toNat names)).toStr (cell 0 (elem x2.toNat x)).toStr then (k0) else bif !decide (o_0 = 0) then (k0) else F18 fu o_1 (cell 1 (elem x2.toNat x)).toRows fun o_2 => bif !o_2 then (k0) else F15 fu (cell 0 (elem x2.toNat x)).toStr d y fun o_3 => bif !decide (o_3 = IntKind.i64.wrap (ofN (cell 1 (elem x2.toNat x)).toRows.length - (cell 2 (elem x2.toNat x)).toInt)) then (k0) else (F25_122 fu x x1 d y names n (IntKind.i64.wrap (x2 + 1)) k0 k1) else none else none else (k1)

noncomputable def t25_122 (fu n : Nat) : ToldP := fun _ e s K => match e, s with
  | [.ptr 0 0, .own 2, .fz zq0 x false, .int .i64 x1, .int .i64 x2], [.obj [.int .i64 d, .map 1], .map .str true zq1 y, .row zq2 names] => (match FT.sames zq0 ft5 with | true => (match FT.sames zq1 ft0 with | true => (match FT.sames zq2 ft4 with | true => F25_122 fu x x1 d y names n x2 (K .ret (unpackM (bitsM 5 0x10) [.bool (false)]) [.obj [.int .i64 (d), .map 1], .map .str true ft0 (y)]) (K (.exit 0) (unpackM (bitsM 5 0x0) []) [.obj [.int .i64 (d), .map 1], .map .str true ft0 (y)]) | false => none) | false => none) | false => none)
  | _, _ => none

noncomputable def pc25_122 (fu : Nat) : Nat → Option ToldP := fun _ => none
theorem e25_122 (fu n : Nat) (R : Type) (K : VExit → UEnv → USt → Option R) (x : List (List D)) (x1 : Int) (x2 : Int) (d : Int) (y : List (D × List D)) (names : List (List D)) :
    F25_122 fu x x1 d y names (n + 1) x2 (K .ret (unpackM (bitsM 5 0x10) [.bool (false)]) [.obj [.int .i64 (d), .map 1], .map .str true ft0 (y)]) (K (.exit 0) (unpackM (bitsM 5 0x0) []) [.obj [.int .i64 (d), .map 1], .map .str true ft0 (y)]) = uexec Try.prog (tb21 fu) 300 (pc25_122 fu) 244 (loopBody (codeAt code25 122)) (unpackM (bitsM 29 0x1c000021) [.ptr 0 0, .own 2, .fz ft5 x false, .int .i64 x1, .int .i64 x2]) [.obj [.int .i64 d, .map 1], .map .str true ft0 y, .row ft4 names] (loopK 2 [.live (bitsM 29 0x1c000021), .ownP 5 [] ft4, .fzP 26 [] ft5, .gc] [.live (bitsM 5 0x10), .gc] (pkP (bitsM 29 0x1c000021) (t25_122 fu n)) K) := by kernel_rfl

theorem p25_122 (fu : Nat) : SoundPc Try.prog 2 code25 (pc25_122 fu) := SoundPc.none _ _ _
theorem s25_122 (fu : Nat) : ∀ n, SoundP Try.prog 2 (.loop (loopBody (codeAt code25 122))) (pkP (bitsM 29 0x1c000021) (t25_122 fu n)) := by
  refine loopP_sound (gin := [.live (bitsM 29 0x1c000021), .ownP 5 [] ft4, .fzP 26 [] ft5, .gc]) (gout := [.live (bitsM 5 0x10), .gc]) (k := 300) (tb21_sound fu) (p25_122 fu) (by decide) a25_122 (fun R e s K => ?_) (fun n R e s K r h => ?_)
  · unfold t25_122; repeat' split
    all_goals rfl
  · unfold t25_122 at h; split at h
    case h_2 => cases h
    split at h
    case h_2 => cases h
    rename_i hq
    have hq := FT.sames_eq _ _ hq
    subst hq
    split at h
    case h_2 => cases h
    rename_i hq
    have hq := FT.sames_eq _ _ hq
    subst hq
    split at h
    case h_2 => cases h
    rename_i hq
    have hq := FT.sames_eq _ _ hq
    subst hq
    exact (e25_122 fu n R K _ _ _ _ _ _).symm.trans h


noncomputable def Fb25 {R : Type} (fu : Nat) (r : List D) (d_room : Int) (d_files : List (D × List D)) (k0 : Bool → Option R) : Option R :=
  bif keysOK d_files then bif !decide (ofN (keysD d_files).length = ofN (cell 1 r).toRows.length) then (k0 false) else bif keysOK d_files then F36 fu [D.int (cell 0 r).toInt, D.row (cell 1 r).toRows] fun o_0 => bif !decide (usedD d_files = o_0) then (k0 false) else F25_122 fu (cell 1 r).toRows (ofN (cell 1 r).toRows.length) d_room d_files (keysD d_files) fu 0 ((k0 false)) ((k0 true)) else none else none

noncomputable def F25 {R : Type} (fu : Nat) (r : List D) (d_room : Int) (d_files : List (D × List D)) (k0 : Bool → Option R) : Option R := shut (@Fb25 R) fu r d_room d_files k0
theorem F25_eq {R : Type} (fu : Nat) (r : List D) (d_room : Int) (d_files : List (D × List D)) (k0 : Bool → Option R) : F25 fu r d_room d_files k0 = Fb25 fu r d_room d_files k0 := by unfold F25; rw [shut_eq]

noncomputable def pc25 (fu : Nat) : Nat → Option ToldP := fun p => match Nat.beq p 122 with | true => some (ghP 2 [.live (bitsM 29 0x1c000021), .ownP 5 [] ft4, .fzP 26 [] ft5, .gc] (pkP (bitsM 29 0x1c000021) (t25_122 fu fu))) | false => none
noncomputable def t25 (fu : Nat) : ToldF := fun _ args s K => match args, s with
  | [.ptr 0 0, .agg [.int .i64 q, .fz zq0 q1 false]], [.obj [.int .i64 d_room, .map 1], .map .str true zq1 d_files] => (match FT.sames zq0 ft5 with | true => (match FT.sames zq1 ft0 with | true => F25 fu [D.int q, D.row q1] d_room d_files (fun o_ => K (.bool o_) [.obj [.int .i64 (d_room), .map 1], .map .str true ft0 (d_files)]) | false => none) | false => none)
  | _, _ => none

theorem e25 (R : Type) (K : UV → USt → Option R) (fu : Nat) (q : Int) (q1 : List (List D)) (d_room : Int) (d_files : List (D × List D)) :
    F25 fu [D.int q, D.row q1] d_room d_files (fun o_ => K (.bool o_) [.obj [.int .i64 (d_room), .map 1], .map .str true ft0 (d_files)]) = ufun Try.prog ⟨(tb21 fu), pc25 fu⟩ 300 25 [.ptr 0 0, .agg [.int .i64 q, .fz ft5 q1 false]] [.obj [.int .i64 d_room, .map 1], .map .str true ft0 d_files] (funK 2 [.gc] K) := (F25_eq fu _ _ _ _).trans (by kernel_rfl)

theorem s25 (fu : Nat) : Tells Try.prog 25 (t25 fu) := by
  refine ufun_sound (T := ⟨(tb21 fu), pc25 fu⟩) (m := 2) (gout := [.gc]) (k := 300) (tb21_sound fu) (fun fn body hf hb => ?_) (fun R args s K r h => ?_) (fun R args s K r h => ?_)
  · have hc : body = code25 := by
      have h1 : Try.prog.funcs[25]? = some Try.f25 := rfl
      rw [h1] at hf; cases hf
      have h2 : Try.f25.body = some code25 := rfl
      rw [h2] at hb; cases hb; rfl
    subst hc
    exact fun p told h b hb => by
      replace h : pc25 fu p = some told := h
      unfold pc25 at h
      split at h
      · rename_i hp
        cases h
        have := Nat.eq_of_beq_eq_true hp
        subst this
        rw [a25_122] at hb
        cases hb
        exact ghP_sound (s25_122 fu _)
      ·
        cases h

  · unfold t25 at h; split at h
    · rfl
    · cases h
  · unfold t25 at h; split at h
    case h_2 => cases h
    split at h
    case h_2 => cases h
    rename_i hq
    have hq := FT.sames_eq _ _ hq
    subst hq
    split at h
    case h_2 => cases h
    rename_i hq
    have hq := FT.sames_eq _ _ hq
    subst hq
    exact (e25 R K fu _ _ _ _).symm.trans h

noncomputable def tb25 (fu : Nat) : FuncId → Option (Bool × ToldF) := fun f => match Nat.beq f 25 with
  | true => some (false, ghG [.fzP 1 [1] ft5, .gc, .gc] (t25 fu))
  | false => (tb21 fu) f
theorem tb25_sound (fu : Nat) : SoundF' Try.prog (tb25 fu) := by
  intro f own told h
  unfold tb25 at h
  split at h
  · rename_i hb
    cases h
    have := Nat.eq_of_beq_eq_true hb
    subst this
    exact ghG_sound (s25 fu)
  · exact (tb21_sound fu) f own told h

end Go.Proofs.Ytpaecfhgahheaaa.V

/- Printed by ugen: daisychain/daisychainlaw03.awake -/
namespace Go.Proofs.Ytpaecfhgahheaaa.V
set_option maxRecDepth 100000
set_option maxHeartbeats 4000000


noncomputable def code10 : Code := match Try.f10.body with | some c => c | none => .skip

noncomputable def Fb10 {R : Type} (fu : Nat) (k0 : Bool → Option R) : Option R :=
  F11 fu 100 fun o_0 => F12 fu { data := #[97] } [[D.int 1], [D.int 2], [D.int 3]] o_0 [] fun o_1 o_2 => F27 fu { data := #[97] } o_0 o_2 fun o_3 o_4 => F12 fu { data := #[97] } [[D.int 4], [D.int 5], [D.int 6], [D.int 7]] o_0 o_4 fun o_5 o_6 => F17 fu [[D.int 2]] o_0 o_6 fun o_7 => F16 fu { data := #[97] } o_0 o_7 fun o_8 o_9 => bif decide (o_1 = 0) then bif decide (o_3 = 0) then bif decide (o_5 = 0) then bif decide (o_8 = 0) then F18 fu o_9 [[D.int 1], [D.int 2], [D.int 3], [D.int 4], [D.int 5]] fun o_10 => bif o_10 then F15 fu { data := #[97] } o_0 o_7 fun o_11 => bif decide (o_11 = 0) then bif keysOK o_7 then bif decide (usedD o_7 = 5) then bif keysOK o_7 then (k0 (decide (ofN (keysD o_7).length = 1))) else none else (k0 false) else none else (k0 false) else (k0 false) else (k0 false) else (k0 false) else (k0 false) else (k0 false)

noncomputable def F10 {R : Type} (fu : Nat) (k0 : Bool → Option R) : Option R := shut (@Fb10 R) fu k0
theorem F10_eq {R : Type} (fu : Nat) (k0 : Bool → Option R) : F10 fu k0 = Fb10 fu k0 := by unfold F10; rw [shut_eq]

noncomputable def pc10 (fu : Nat) : Nat → Option ToldP := fun _ => none
noncomputable def t10 (fu : Nat) : ToldF := fun _ args s K => match args, s with
  | [], [] => F10 fu  (fun o_ => K (.bool o_) [])
  | _, _ => none

theorem e10 (R : Type) (K : UV → USt → Option R) (fu : Nat) :
    F10 fu  (fun o_ => K (.bool o_) []) = ufun Try.prog ⟨(tb25 fu), pc10 fu⟩ 300 10 [] [] (funK 0 [.gc] K) := (F10_eq fu _).trans (by kernel_rfl)

theorem s10 (fu : Nat) : Tells Try.prog 10 (t10 fu) := by
  refine ufun_sound (T := ⟨(tb25 fu), pc10 fu⟩) (m := 0) (gout := [.gc]) (k := 300) (tb25_sound fu) (fun fn body hf hb => ?_) (fun R args s K r h => ?_) (fun R args s K r h => ?_)
  · have hc : body = code10 := by
      have h1 : Try.prog.funcs[10]? = some Try.f10 := rfl
      rw [h1] at hf; cases hf
      have h2 : Try.f10.body = some code10 := rfl
      rw [h2] at hb; cases hb; rfl
    subst hc
    exact SoundPc.none _ _ _
  · unfold t10 at h; split at h
    · rfl
    · cases h
  · unfold t10 at h; split at h
    case h_2 => cases h
    exact (e10 R K fu).symm.trans h

noncomputable def tb10 (fu : Nat) : FuncId → Option (Bool × ToldF) := fun f => match Nat.beq f 10 with
  | true => some (false, ghG [] (t10 fu))
  | false => (tb25 fu) f
theorem tb10_sound (fu : Nat) : SoundF' Try.prog (tb10 fu) := by
  intro f own told h
  unfold tb10 at h
  split at h
  · rename_i hb
    cases h
    have := Nat.eq_of_beq_eq_true hb
    subst this
    exact ghG_sound (s10 fu)
  · exact (tb25_sound fu) f own told h

end Go.Proofs.Ytpaecfhgahheaaa.V

/- Printed by ugen: daisychain/daisychainlaw03.DiskMoves -/
namespace Go.Proofs.Ytpaecfhgahheaaa.V
set_option maxRecDepth 100000
set_option maxHeartbeats 4000000


noncomputable def code5 : Code := match Try.f5.body with | some c => c | none => .skip
theorem a5_8191 : codeAt code5 8191 = some (pieceOf (codeAt code5 8191)) := by kernel_rfl
noncomputable def F5_8191 {R : Type} (fu : Nat) (from_ : ByteArray) (to : ByteArray) (b : List (List D)) (f : Int) (g : Int) (n_ : Int) (got : List (List D)) (y : List (D × List D)) (k0 : Bool → Option R) : Option R :=
  bif decide (f = 0) then F18 fu got b fun o_0 => bif o_0 then bif decide (g = 6) == !strEq from_ to then bif keysOK y then bif decide (usedD y = n_) then bif keysOK y then bif decide (ofN (keysD y).length = 1) then F10 fu fun o_1 => (k0 o_1) else (k0 false) else none else (k0 false) else none else (k0 false) else (k0 false) else (k0 false)

noncomputable def t5_8191 (fu : Nat) : ToldP := fun _ e s K => match e, s with
  | [.str from_, .str to, .fz zq0 b false, .ptr 0 0, .own 1, .int .i64 f, .int .i64 g, .int .i64 n_], [.obj [.int .i64 d, .map 2], .row zq1 got, .map .str true zq2 y] => (match FT.sames zq0 ft1 with | true => (match FT.sames zq1 ft1 with | true => (match FT.sames zq2 ft0 with | true => F5_8191 fu from_ to b f g n_ got y (fun o_ => K .ret (unpackM (bitsM 7 0x40) [.bool o_]) []) | false => none) | false => none) | false => none)
  | _, _ => none

noncomputable def pc5_8191 (fu : Nat) : Nat → Option ToldP := fun _ => none
theorem e5_8191 (fu : Nat) (R : Type) (K : VExit → UEnv → USt → Option R) (from_ : ByteArray) (to : ByteArray) (b : List (List D)) (f : Int) (g : Int) (n_ : Int) (d : Int) (got : List (List D)) (y : List (D × List D)) :
    F5_8191 fu from_ to b f g n_ got y (fun o_ => K .ret (unpackM (bitsM 7 0x40) [.bool o_]) []) = uexec Try.prog (tb10 fu) 300 (pc5_8191 fu) 8191 (pieceOf (codeAt code5 8191)) (unpackM (bitsM 14 0x3687) [.str from_, .str to, .fz ft1 b false, .ptr 0 0, .own 1, .int .i64 f, .int .i64 g, .int .i64 n_]) [.obj [.int .i64 d, .map 2], .row ft1 got, .map .str true ft0 y] (ghK 0 [.live (bitsM 7 0x40), .gc] K) := by kernel_rfl

theorem p5_8191 (fu : Nat) : SoundPc Try.prog 0 code5 (pc5_8191 fu) := SoundPc.none _ _ _
theorem s5_8191 (fu : Nat) : SoundP Try.prog 0 (pieceOf (codeAt code5 8191)) (pkP (bitsM 14 0x3687) (t5_8191 fu)) := by
  refine pieceP_sound (gout := [.live (bitsM 7 0x40), .gc]) (k := 300) (tb10_sound fu) (p5_8191 fu) (by decide) a5_8191 (fun R e s K r h => ?_)
  unfold t5_8191 at h; split at h
  case h_2 => cases h
  split at h
  case h_2 => cases h
  rename_i hq
  have hq := FT.sames_eq _ _ hq
  subst hq
  split at h
  case h_2 => cases h
  rename_i hq
  have hq := FT.sames_eq _ _ hq
  subst hq
  split at h
  case h_2 => cases h
  rename_i hq
  have hq := FT.sames_eq _ _ hq
  subst hq
  exact (e5_8191 fu R K _ _ _ _ _ _ _ _ _).symm.trans h


noncomputable def Fb5 {R : Type} (fu : Nat) (from_ : ByteArray) (to : ByteArray) (b : List (List D)) (k0 : Bool → Option R) : Option R :=
  bif decide (600 < ofN b.length) then F10 fu fun o_0 => (k0 o_0) else F11 fu 1000 fun o_1 => F12 fu from_ b o_1 [] fun o_2 o_3 => bif !decide (o_2 = 0) then F19 fu from_ to o_1 o_3 fun o_4 o_5 => bif decide (o_4 = 6) then F10 fu fun o_6 => (k0 o_6) else (k0 false) else F19 fu from_ to o_1 o_3 fun o_7 o_8 => bif !decide (o_7 = 0) then bif decide (o_7 = 1) then bif keysOK o_8 then bif decide (usedD o_8 = ofN b.length) then F10 fu fun o_9 => (k0 o_9) else (k0 false) else none else (k0 false) else F16 fu to o_1 o_8 fun o_10 o_11 => F16 fu from_ o_1 o_8 fun o_12 o_13 => F17 fu [] o_1 o_8 fun o_14 => bif strEq from_ to then F5_8191 fu from_ to b o_10 o_12 0 o_11 o_14 fun o_15 => (k0 o_15) else F5_8191 fu from_ to b o_10 o_12 (ofN b.length) o_11 o_14 fun o_16 => (k0 o_16)

noncomputable def F5 {R : Type} (fu : Nat) (from_ : ByteArray) (to : ByteArray) (b : List (List D)) (k0 : Bool → Option R) : Option R := shut (@Fb5 R) fu from_ to b k0
theorem F5_eq {R : Type} (fu : Nat) (from_ : ByteArray) (to : ByteArray) (b : List (List D)) (k0 : Bool → Option R) : F5 fu from_ to b k0 = Fb5 fu from_ to b k0 := by unfold F5; rw [shut_eq]

noncomputable def pc5 (fu : Nat) : Nat → Option ToldP := fun p => match Nat.beq p 8191 with | true => some (ghP 0 [.live (bitsM 14 0x3687), .fzP 2 [] ft1, .ownP 9 [] ft1, .gc] (pkP (bitsM 14 0x3687) (t5_8191 fu))) | false => none
noncomputable def t5 (fu : Nat) : ToldF := fun _ args s K => match args, s with
  | [.str from_, .str to, .fz zq0 b false], [] => (match FT.sames zq0 ft1 with | true => F5 fu from_ to b (fun o_ => K (.bool o_) []) | false => none)
  | _, _ => none

theorem e5 (R : Type) (K : UV → USt → Option R) (fu : Nat) (from_ : ByteArray) (to : ByteArray) (b : List (List D)) :
    F5 fu from_ to b (fun o_ => K (.bool o_) []) = ufun Try.prog ⟨(tb10 fu), pc5 fu⟩ 300 5 [.str from_, .str to, .fz ft1 b false] [] (funK 0 [.gc] K) := (F5_eq fu _ _ _ _).trans (by kernel_rfl)

theorem s5 (fu : Nat) : Tells Try.prog 5 (t5 fu) := by
  refine ufun_sound (T := ⟨(tb10 fu), pc5 fu⟩) (m := 0) (gout := [.gc]) (k := 300) (tb10_sound fu) (fun fn body hf hb => ?_) (fun R args s K r h => ?_) (fun R args s K r h => ?_)
  · have hc : body = code5 := by
      have h1 : Try.prog.funcs[5]? = some Try.f5 := rfl
      rw [h1] at hf; cases hf
      have h2 : Try.f5.body = some code5 := rfl
      rw [h2] at hb; cases hb; rfl
    subst hc
    exact fun p told h b hb => by
      replace h : pc5 fu p = some told := h
      unfold pc5 at h
      split at h
      · rename_i hp
        cases h
        have := Nat.eq_of_beq_eq_true hp
        subst this
        rw [a5_8191] at hb
        cases hb
        exact ghP_sound (s5_8191 fu)
      ·
        cases h

  · unfold t5 at h; split at h
    · rfl
    · cases h
  · unfold t5 at h; split at h
    case h_2 => cases h
    split at h
    case h_2 => cases h
    rename_i hq
    have hq := FT.sames_eq _ _ hq
    subst hq
    exact (e5 R K fu _ _ _).symm.trans h

noncomputable def tb5 (fu : Nat) : FuncId → Option (Bool × ToldF) := fun f => match Nat.beq f 5 with
  | true => some (false, ghG [.fzP 2 [] ft1] (t5 fu))
  | false => (tb10 fu) f
theorem tb5_sound (fu : Nat) : SoundF' Try.prog (tb5 fu) := by
  intro f own told h
  unfold tb5 at h
  split at h
  · rename_i hb
    cases h
    have := Nat.eq_of_beq_eq_true hb
    subst this
    exact ghG_sound (s5 fu)
  · exact (tb10_sound fu) f own told h

end Go.Proofs.Ytpaecfhgahheaaa.V

/- Printed by ugen: daisychain/daisychainlaw03.DiskCuts -/
namespace Go.Proofs.Ytpaecfhgahheaaa.V
set_option maxRecDepth 100000
set_option maxHeartbeats 4000000


noncomputable def code4 : Code := match Try.f4.body with | some c => c | none => .skip
theorem a4_125 : codeAt code4 125 = some (pieceOf (codeAt code4 125)) := by kernel_rfl
noncomputable def F4_125 {R : Type} (fu : Nat) (b : List (List D)) (n_ : Int) (x : Bool) (d : Int) (y : List (D × List D)) (k0 : Bool → (List (D × List D)) → Option R) (k1 : Option R) : Option R :=
  bif x then F14 fu { data := #[97] } n_ d y fun o_0 o_1 => bif decide (o_0 = 1) then F15 fu { data := #[97] } d o_1 fun o_2 => bif decide (o_2 = ofN b.length) then F10 fu fun o_3 => (k0 o_3 o_1) else (k0 false o_1) else (k0 false o_1) else (k1)

noncomputable def t4_125 (fu : Nat) : ToldP := fun _ e s K => match e, s with
  | [.fz zq0 b false, .fz zq1 more false, .int .i64 n_, .ptr 0 0, .bool x], [.obj [.int .i64 d, .map 1], .map .str true zq2 y] => (match FT.sames zq0 ft1 with | true => (match FT.sames zq1 ft1 with | true => (match FT.sames zq2 ft0 with | true => F4_125 fu b n_ x d y (fun o_ o_1 => K .ret (unpackM (bitsM 8 0xc7) [.fz ft1 (b) false, .fz ft1 (more) false, .int .i64 (n_), .bool o_, .ptr 0 0]) [.obj [.int .i64 (d), .map 1], .map .str true ft0 o_1]) (K .normal (unpackM (bitsM 8 0x87) [.fz ft1 (b) false, .fz ft1 (more) false, .int .i64 (n_), .ptr 0 0]) [.obj [.int .i64 (d), .map 1], .map .str true ft0 (y)]) | false => none) | false => none) | false => none)
  | _, _ => none

noncomputable def pc4_125 (fu : Nat) : Nat → Option ToldP := fun _ => none
theorem e4_125 (fu : Nat) (R : Type) (K : VExit → UEnv → USt → Option R) (b : List (List D)) (more : List (List D)) (n_ : Int) (x : Bool) (d : Int) (y : List (D × List D)) :
    F4_125 fu b n_ x d y (fun o_ o_1 => K .ret (unpackM (bitsM 8 0xc7) [.fz ft1 (b) false, .fz ft1 (more) false, .int .i64 (n_), .bool o_, .ptr 0 0]) [.obj [.int .i64 (d), .map 1], .map .str true ft0 o_1]) (K .normal (unpackM (bitsM 8 0x87) [.fz ft1 (b) false, .fz ft1 (more) false, .int .i64 (n_), .ptr 0 0]) [.obj [.int .i64 (d), .map 1], .map .str true ft0 (y)]) = uexec Try.prog (tb5 fu) 300 (pc4_125 fu) 125 (pieceOf (codeAt code4 125)) (unpackM (bitsM 41 0x10000000087) [.fz ft1 b false, .fz ft1 more false, .int .i64 n_, .ptr 0 0, .bool x]) [.obj [.int .i64 d, .map 1], .map .str true ft0 y] (ghK 0 [.live (bitsM 8 0xc7), .gc] K) := by kernel_rfl

theorem p4_125 (fu : Nat) : SoundPc Try.prog 0 code4 (pc4_125 fu) := SoundPc.none _ _ _
theorem s4_125 (fu : Nat) : SoundP Try.prog 0 (pieceOf (codeAt code4 125)) (pkP (bitsM 41 0x10000000087) (t4_125 fu)) := by
  refine pieceP_sound (gout := [.live (bitsM 8 0xc7), .gc]) (k := 300) (tb5_sound fu) (p4_125 fu) (by decide) a4_125 (fun R e s K r h => ?_)
  unfold t4_125 at h; split at h
  case h_2 => cases h
  split at h
  case h_2 => cases h
  rename_i hq
  have hq := FT.sames_eq _ _ hq
  subst hq
  split at h
  case h_2 => cases h
  rename_i hq
  have hq := FT.sames_eq _ _ hq
  subst hq
  split at h
  case h_2 => cases h
  rename_i hq
  have hq := FT.sames_eq _ _ hq
  subst hq
  exact (e4_125 fu R K _ _ _ _ _ _).symm.trans h

theorem a4_63 : codeAt code4 63 = some (pieceOf (codeAt code4 63)) := by kernel_rfl
noncomputable def F4_63 {R : Type} (fu : Nat) (b : List (List D)) (more : List (List D)) (n_ : Int) (d : Int) (y : List (D × List D)) (k0 : Bool → Option R) : Option R :=
  F14 fu { data := #[97] } n_ d y fun o_0 o_1 => F15 fu { data := #[97] } d o_1 fun o_2 => F12 fu { data := #[97] } more d o_1 fun o_3 o_4 => F16 fu { data := #[97] } d o_4 fun o_5 o_6 => F17 fu [] d o_4 fun o_7 => F16 fu { data := #[97] } d o_7 fun o_8 o_9 => bif decide (o_0 = 0) then bif decide (o_3 = 0) then bif decide (o_2 = 0) then bif decide ((0 : Int) ≤ 0 ∧ 0 ≤ n_) && upTo n_ b.length then bif fits (0 + (part b 0 n_.toNat).length) 1 then bif fits ((part b 0 n_.toNat).length + more.length) 1 then F18 fu o_6 (part b 0 n_.toNat ++ more) fun o_10 => bif o_10 then bif decide ((0 : Int) ≤ 0 ∧ 0 ≤ n_) && upTo n_ b.length then F18 fu o_9 (part b 0 n_.toNat) fun o_11 => bif o_11 then F10 fu fun o_12 => (k0 o_12) else (k0 false) else none else (k0 false) else none else none else none else (k0 false) else (k0 false) else (k0 false)

noncomputable def t4_63 (fu : Nat) : ToldP := fun _ e s K => match e, s with
  | [.fz zq0 b false, .fz zq1 more false, .int .i64 n_, .ptr 0 0], [.obj [.int .i64 d, .map 1], .map .str true zq2 y] => (match FT.sames zq0 ft1 with | true => (match FT.sames zq1 ft1 with | true => (match FT.sames zq2 ft0 with | true => F4_63 fu b more n_ d y (fun o_ => K .ret (unpackM (bitsM 7 0x40) [.bool o_]) []) | false => none) | false => none) | false => none)
  | _, _ => none

noncomputable def pc4_63 (fu : Nat) : Nat → Option ToldP := fun _ => none
theorem e4_63 (fu : Nat) (R : Type) (K : VExit → UEnv → USt → Option R) (b : List (List D)) (more : List (List D)) (n_ : Int) (d : Int) (y : List (D × List D)) :
    F4_63 fu b more n_ d y (fun o_ => K .ret (unpackM (bitsM 7 0x40) [.bool o_]) []) = uexec Try.prog (tb5 fu) 300 (pc4_63 fu) 63 (pieceOf (codeAt code4 63)) (unpackM (bitsM 8 0x87) [.fz ft1 b false, .fz ft1 more false, .int .i64 n_, .ptr 0 0]) [.obj [.int .i64 d, .map 1], .map .str true ft0 y] (ghK 0 [.live (bitsM 7 0x40), .gc] K) := by kernel_rfl

theorem p4_63 (fu : Nat) : SoundPc Try.prog 0 code4 (pc4_63 fu) := SoundPc.none _ _ _
theorem s4_63 (fu : Nat) : SoundP Try.prog 0 (pieceOf (codeAt code4 63)) (pkP (bitsM 8 0x87) (t4_63 fu)) := by
  refine pieceP_sound (gout := [.live (bitsM 7 0x40), .gc]) (k := 300) (tb5_sound fu) (p4_63 fu) (by decide) a4_63 (fun R e s K r h => ?_)
  unfold t4_63 at h; split at h
  case h_2 => cases h
  split at h
  case h_2 => cases h
  rename_i hq
  have hq := FT.sames_eq _ _ hq
  subst hq
  split at h
  case h_2 => cases h
  rename_i hq
  have hq := FT.sames_eq _ _ hq
  subst hq
  split at h
  case h_2 => cases h
  rename_i hq
  have hq := FT.sames_eq _ _ hq
  subst hq
  exact (e4_63 fu R K _ _ _ _ _).symm.trans h


noncomputable def Fb4 {R : Type} (fu : Nat) (b : List (List D)) (more : List (List D)) (n_ : Int) (k0 : Bool → Option R) : Option R :=
  bif decide (600 < ofN b.length) then F10 fu fun o_0 => (k0 o_0) else bif decide (600 < ofN more.length) then F10 fu fun o_1 => (k0 o_1) else F11 fu 2000 fun o_2 => F12 fu { data := #[97] } b o_2 [] fun o_3 o_4 => bif !decide (o_3 = 0) then (k0 false) else bif decide (n_ < 0) then F4_125 fu b n_ true o_2 o_4 (fun o_5 o_6 => (k0 o_5)) (F4_63 fu b more n_ o_2 o_4 fun o_7 => (k0 o_7)) else F4_125 fu b n_ (decide (ofN b.length < n_)) o_2 o_4 (fun o_8 o_9 => (k0 o_8)) (F4_63 fu b more n_ o_2 o_4 fun o_10 => (k0 o_10))

noncomputable def F4 {R : Type} (fu : Nat) (b : List (List D)) (more : List (List D)) (n_ : Int) (k0 : Bool → Option R) : Option R := shut (@Fb4 R) fu b more n_ k0
theorem F4_eq {R : Type} (fu : Nat) (b : List (List D)) (more : List (List D)) (n_ : Int) (k0 : Bool → Option R) : F4 fu b more n_ k0 = Fb4 fu b more n_ k0 := by unfold F4; rw [shut_eq]

noncomputable def pc4 (fu : Nat) : Nat → Option ToldP := fun p => match Nat.beq p 125 with | true => some (ghP 0 [.live (bitsM 41 0x10000000087), .fzP 0 [] ft1, .fzP 1 [] ft1, .gc] (pkP (bitsM 41 0x10000000087) (t4_125 fu))) | false => match Nat.beq p 63 with | true => some (ghP 0 [.live (bitsM 8 0x87), .fzP 0 [] ft1, .fzP 1 [] ft1, .gc] (pkP (bitsM 8 0x87) (t4_63 fu))) | false => none
noncomputable def t4 (fu : Nat) : ToldF := fun _ args s K => match args, s with
  | [.fz zq0 b false, .fz zq1 more false, .int .i64 n_], [] => (match FT.sames zq0 ft1 with | true => (match FT.sames zq1 ft1 with | true => F4 fu b more n_ (fun o_ => K (.bool o_) []) | false => none) | false => none)
  | _, _ => none

theorem e4 (R : Type) (K : UV → USt → Option R) (fu : Nat) (b : List (List D)) (more : List (List D)) (n_ : Int) :
    F4 fu b more n_ (fun o_ => K (.bool o_) []) = ufun Try.prog ⟨(tb5 fu), pc4 fu⟩ 300 4 [.fz ft1 b false, .fz ft1 more false, .int .i64 n_] [] (funK 0 [.gc] K) := (F4_eq fu _ _ _ _).trans (by kernel_rfl)

theorem s4 (fu : Nat) : Tells Try.prog 4 (t4 fu) := by
  refine ufun_sound (T := ⟨(tb5 fu), pc4 fu⟩) (m := 0) (gout := [.gc]) (k := 300) (tb5_sound fu) (fun fn body hf hb => ?_) (fun R args s K r h => ?_) (fun R args s K r h => ?_)
  · have hc : body = code4 := by
      have h1 : Try.prog.funcs[4]? = some Try.f4 := rfl
      rw [h1] at hf; cases hf
      have h2 : Try.f4.body = some code4 := rfl
      rw [h2] at hb; cases hb; rfl
    subst hc
    exact fun p told h b hb => by
      replace h : pc4 fu p = some told := h
      unfold pc4 at h
      split at h
      · rename_i hp
        cases h
        have := Nat.eq_of_beq_eq_true hp
        subst this
        rw [a4_125] at hb
        cases hb
        exact ghP_sound (s4_125 fu)
      ·
        split at h
        · rename_i hp
          cases h
          have := Nat.eq_of_beq_eq_true hp
          subst this
          rw [a4_63] at hb
          cases hb
          exact ghP_sound (s4_63 fu)
        ·
          cases h

  · unfold t4 at h; split at h
    · rfl
    · cases h
  · unfold t4 at h; split at h
    case h_2 => cases h
    split at h
    case h_2 => cases h
    rename_i hq
    have hq := FT.sames_eq _ _ hq
    subst hq
    split at h
    case h_2 => cases h
    rename_i hq
    have hq := FT.sames_eq _ _ hq
    subst hq
    exact (e4 R K fu _ _ _).symm.trans h

noncomputable def tb4 (fu : Nat) : FuncId → Option (Bool × ToldF) := fun f => match Nat.beq f 4 with
  | true => some (false, ghG [.fzP 0 [] ft1, .fzP 1 [] ft1] (t4 fu))
  | false => (tb5 fu) f
theorem tb4_sound (fu : Nat) : SoundF' Try.prog (tb4 fu) := by
  intro f own told h
  unfold tb4 at h
  split at h
  · rename_i hb
    cases h
    have := Nat.eq_of_beq_eq_true hb
    subst this
    exact ghG_sound (s4 fu)
  · exact (tb5_sound fu) f own told h

end Go.Proofs.Ytpaecfhgahheaaa.V

/- Printed by ugen: daisychain/daisychainlaw03.DiskRoom -/
namespace Go.Proofs.Ytpaecfhgahheaaa.V
set_option maxRecDepth 100000
set_option maxHeartbeats 4000000


noncomputable def code3 : Code := match Try.f3.body with | some c => c | none => .skip
theorem a3_1023 : codeAt code3 1023 = some (pieceOf (codeAt code3 1023)) := by kernel_rfl
theorem a3_4095 : codeAt code3 4095 = some (pieceOf (codeAt code3 4095)) := by kernel_rfl
noncomputable def F3_4095 {R : Type} (fu : Nat) (n_ : Int) (used : Int) (y : List (D × List D)) (k0 : Bool → Option R) : Option R :=
  bif keysOK y then bif decide (usedD y = used) then bif decide (used ≤ n_) then F10 fu fun o_0 => (k0 o_0) else (k0 false) else (k0 false) else none

noncomputable def t3_4095 (fu : Nat) : ToldP := fun _ e s K => match e, s with
  | [.ptr 0 0, .int .i64 n_, .int .i64 used], [.obj [.int .i64 d, .map 1], .map .str true zq0 y] => (match FT.sames zq0 ft0 with | true => F3_4095 fu n_ used y (fun o_ => K .ret (unpackM (bitsM 7 0x40) [.bool o_]) []) | false => none)
  | _, _ => none

noncomputable def pc3_4095 (fu : Nat) : Nat → Option ToldP := fun _ => none
theorem e3_4095 (fu : Nat) (R : Type) (K : VExit → UEnv → USt → Option R) (n_ : Int) (used : Int) (d : Int) (y : List (D × List D)) :
    F3_4095 fu n_ used y (fun o_ => K .ret (unpackM (bitsM 7 0x40) [.bool o_]) []) = uexec Try.prog (tb4 fu) 300 (pc3_4095 fu) 4095 (pieceOf (codeAt code3 4095)) (unpackM (bitsM 12 0x980) [.ptr 0 0, .int .i64 n_, .int .i64 used]) [.obj [.int .i64 d, .map 1], .map .str true ft0 y] (ghK 0 [.live (bitsM 7 0x40), .gc] K) := by kernel_rfl

theorem p3_4095 (fu : Nat) : SoundPc Try.prog 0 code3 (pc3_4095 fu) := SoundPc.none _ _ _
theorem s3_4095 (fu : Nat) : SoundP Try.prog 0 (pieceOf (codeAt code3 4095)) (pkP (bitsM 12 0x980) (t3_4095 fu)) := by
  refine pieceP_sound (gout := [.live (bitsM 7 0x40), .gc]) (k := 300) (tb4_sound fu) (p3_4095 fu) (by decide) a3_4095 (fun R e s K r h => ?_)
  unfold t3_4095 at h; split at h
  case h_2 => cases h
  split at h
  case h_2 => cases h
  rename_i hq
  have hq := FT.sames_eq _ _ hq
  subst hq
  exact (e3_4095 fu R K _ _ _ _).symm.trans h

noncomputable def F3_1023 {R : Type} (fu : Nat) (one : Int) (two : Int) (n_ : Int) (e : Int) (f : Int) (used : Int) (y : List (D × List D)) (k0 : Bool → Option R) : Option R :=
  bif !decide (e = 0) == decide (one ≤ n_) then (k0 false) else bif !decide (f = 0) == decide (two ≤ IntKind.i64.wrap (n_ - used)) then (k0 false) else bif decide (f = 0) then F3_4095 fu n_ (IntKind.i64.wrap (used + two)) y fun o_0 => (k0 o_0) else F3_4095 fu n_ used y fun o_1 => (k0 o_1)

noncomputable def t3_1023 (fu : Nat) : ToldP := fun _ e s K => match e, s with
  | [.int .i64 one, .int .i64 two, .ptr 0 0, .int .i64 n_, .int .i64 e, .int .i64 f, .int .i64 used], [.obj [.int .i64 d, .map 1], .map .str true zq0 y] => (match FT.sames zq0 ft0 with | true => F3_1023 fu one two n_ e f used y (fun o_ => K .ret (unpackM (bitsM 7 0x40) [.bool o_]) []) | false => none)
  | _, _ => none

noncomputable def pc3_1023 (fu : Nat) : Nat → Option ToldP := fun p => match Nat.beq p 4095 with | true => some (ghP 0 [.live (bitsM 12 0x980), .gc] (pkP (bitsM 12 0x980) (t3_4095 fu))) | false => none
theorem e3_1023 (fu : Nat) (R : Type) (K : VExit → UEnv → USt → Option R) (one : Int) (two : Int) (n_ : Int) (e : Int) (f : Int) (used : Int) (d : Int) (y : List (D × List D)) :
    F3_1023 fu one two n_ e f used y (fun o_ => K .ret (unpackM (bitsM 7 0x40) [.bool o_]) []) = uexec Try.prog (tb4 fu) 300 (pc3_1023 fu) 1023 (pieceOf (codeAt code3 1023)) (unpackM (bitsM 12 0xf86) [.int .i64 one, .int .i64 two, .ptr 0 0, .int .i64 n_, .int .i64 e, .int .i64 f, .int .i64 used]) [.obj [.int .i64 d, .map 1], .map .str true ft0 y] (ghK 0 [.live (bitsM 7 0x40), .gc] K) := by kernel_rfl

theorem p3_1023 (fu : Nat) : SoundPc Try.prog 0 code3 (pc3_1023 fu) := fun p told h b hb => by
  replace h : pc3_1023 fu p = some told := h
  unfold pc3_1023 at h
  split at h
  · rename_i hp
    cases h
    have := Nat.eq_of_beq_eq_true hp
    subst this
    rw [a3_4095] at hb
    cases hb
    exact ghP_sound (s3_4095 fu)
  ·
    cases h

theorem s3_1023 (fu : Nat) : SoundP Try.prog 0 (pieceOf (codeAt code3 1023)) (pkP (bitsM 12 0xf86) (t3_1023 fu)) := by
  refine pieceP_sound (gout := [.live (bitsM 7 0x40), .gc]) (k := 300) (tb4_sound fu) (p3_1023 fu) (by decide) a3_1023 (fun R e s K r h => ?_)
  unfold t3_1023 at h; split at h
  case h_2 => cases h
  split at h
  case h_2 => cases h
  rename_i hq
  have hq := FT.sames_eq _ _ hq
  subst hq
  exact (e3_1023 fu R K _ _ _ _ _ _ _ _).symm.trans h


noncomputable def Fb3 {R : Type} (fu : Nat) (room : Int) (one : Int) (two : Int) (k0 : Bool → Option R) : Option R :=
  bif decide (one < 0) then F10 fu fun o_0 => (k0 o_0) else bif decide (3000 < one) then F10 fu fun o_1 => (k0 o_1) else bif decide (two < 0) then F10 fu fun o_2 => (k0 o_2) else bif decide (3000 < two) then F10 fu fun o_3 => (k0 o_3) else F11 fu room fun o_4 => bif decide (0 ≤ one ∧ one ≤ one) && fits one.toNat 1 then F12 fu { data := #[97] } (List.replicate one.toNat [D.int 0]) o_4 [] fun o_5 o_6 => bif decide (0 ≤ two ∧ two ≤ two) && fits two.toNat 1 then F12 fu { data := #[98] } (List.replicate two.toNat [D.int 0]) o_4 o_6 fun o_7 o_8 => bif decide (one ≤ if 1048576 < if 0 > room then 0 else room then 1048576 else if 0 > room then 0 else room) then F3_1023 fu one two (if 1048576 < if 0 > room then 0 else room then 1048576 else if 0 > room then 0 else room) o_5 o_7 one o_8 fun o_9 => (k0 o_9) else F3_1023 fu one two (if 1048576 < if 0 > room then 0 else room then 1048576 else if 0 > room then 0 else room) o_5 o_7 0 o_8 fun o_10 => (k0 o_10) else none else none

noncomputable def F3 {R : Type} (fu : Nat) (room : Int) (one : Int) (two : Int) (k0 : Bool → Option R) : Option R := shut (@Fb3 R) fu room one two k0
theorem F3_eq {R : Type} (fu : Nat) (room : Int) (one : Int) (two : Int) (k0 : Bool → Option R) : F3 fu room one two k0 = Fb3 fu room one two k0 := by unfold F3; rw [shut_eq]

noncomputable def pc3 (fu : Nat) : Nat → Option ToldP := fun p => match Nat.beq p 1023 with | true => some (ghP 0 [.live (bitsM 12 0xf86), .gc] (pkP (bitsM 12 0xf86) (t3_1023 fu))) | false => none
noncomputable def t3 (fu : Nat) : ToldF := fun _ args s K => match args, s with
  | [.int .i64 room, .int .i64 one, .int .i64 two], [] => F3 fu room one two (fun o_ => K (.bool o_) [])
  | _, _ => none

theorem e3 (R : Type) (K : UV → USt → Option R) (fu : Nat) (room : Int) (one : Int) (two : Int) :
    F3 fu room one two (fun o_ => K (.bool o_) []) = ufun Try.prog ⟨(tb4 fu), pc3 fu⟩ 300 3 [.int .i64 room, .int .i64 one, .int .i64 two] [] (funK 0 [.gc] K) := (F3_eq fu _ _ _ _).trans (by kernel_rfl)

theorem s3 (fu : Nat) : Tells Try.prog 3 (t3 fu) := by
  refine ufun_sound (T := ⟨(tb4 fu), pc3 fu⟩) (m := 0) (gout := [.gc]) (k := 300) (tb4_sound fu) (fun fn body hf hb => ?_) (fun R args s K r h => ?_) (fun R args s K r h => ?_)
  · have hc : body = code3 := by
      have h1 : Try.prog.funcs[3]? = some Try.f3 := rfl
      rw [h1] at hf; cases hf
      have h2 : Try.f3.body = some code3 := rfl
      rw [h2] at hb; cases hb; rfl
    subst hc
    exact fun p told h b hb => by
      replace h : pc3 fu p = some told := h
      unfold pc3 at h
      split at h
      · rename_i hp
        cases h
        have := Nat.eq_of_beq_eq_true hp
        subst this
        rw [a3_1023] at hb
        cases hb
        exact ghP_sound (s3_1023 fu)
      ·
        cases h

  · unfold t3 at h; split at h
    · rfl
    · cases h
  · unfold t3 at h; split at h
    case h_2 => cases h
    exact (e3 R K fu _ _ _).symm.trans h

noncomputable def tb3 (fu : Nat) : FuncId → Option (Bool × ToldF) := fun f => match Nat.beq f 3 with
  | true => some (false, ghG [] (t3 fu))
  | false => (tb4 fu) f
theorem tb3_sound (fu : Nat) : SoundF' Try.prog (tb3 fu) := by
  intro f own told h
  unfold tb3 at h
  split at h
  · rename_i hb
    cases h
    have := Nat.eq_of_beq_eq_true hb
    subst this
    exact ghG_sound (s3 fu)
  · exact (tb4_sound fu) f own told h

end Go.Proofs.Ytpaecfhgahheaaa.V

/- Printed by ugen: daisychain/daisychainlaw03.DiskDoes -/
namespace Go.Proofs.Ytpaecfhgahheaaa.V
set_option maxRecDepth 100000
set_option maxHeartbeats 4000000


noncomputable def code6 : Code := match Try.f6.body with | some c => c | none => .skip
theorem a6_250 : codeAt code6 250 = some (.loop (loopBody (codeAt code6 250))) := by kernel_rfl
noncomputable def F6_250 {R : Type} (fu : Nat) (x : List (List D)) (x1 : Int) (d : Int) : Nat → Int → Int → (List (List D)) → (List (D × List D)) → (Option R) → (Option R) → Option R
  | 0, _, _, _, _, _, _ => none
  | n + 1, x2, r, r1, y, k0, k1 => bif decide (x2 < x1) then bif within x2 x.length then F23 fu [D.int r, D.row r1] [D.int (cell 0 (elem x2.toNat x)).toInt, D.str (cell 1 (elem x2.toNat x)).toStr, D.str (cell 2 (elem x2.toNat x)).toStr, D.row (cell 3 (elem x2.toNat x)).toRows, D.int (cell 4 (elem x2.toNat x)).toInt, D.row (cell 5 (elem x2.toNat x)).toRows] fun o_0 o_1 => F24 fu [D.int (cell 0 (elem x2.toNat x)).toInt, D.str (cell 1 (elem x2.toNat x)).toStr, D.str (cell 2 (elem x2.toNat x)).toStr, D.row (cell 3 (elem x2.toNat x)).toRows, D.int (cell 4 (elem x2.toNat x)).toInt, D.row (cell 5 (elem x2.toNat x)).toRows] d y fun o_2 o_3 => bif !decide (o_2 = o_1) then (k0) else F25 fu [D.int (cell 0 o_0).toInt, D.row (cell 1 o_0).toRows] d o_3 fun o_4 => bif !o_4 then (k0) else (F6_250 fu x x1 d n (IntKind.i64.wrap (x2 + 1)) ((cell 0 o_0).toInt) ((cell 1 o_0).toRows) o_3 k0 k1) else none else (k1)

noncomputable def t6_250 (fu n : Nat) : ToldP := fun _ e s K => match e, s with
  | [.ptr 0 0, .ptr 1 0, .fz zq0 x false, .int .i64 x1, .int .i64 x2], [.obj [.int .i64 d, .map 2], .obj [.int .i64 r, .fz zq1 r1 false], .map .str true zq2 y] => (match FT.sames zq0 ft7 with | true => (match FT.sames zq1 ft5 with | true => (match FT.sames zq2 ft0 with | true => F6_250 fu x x1 d n x2 r r1 y (K .ret (unpackM (bitsM 5 0x10) [.bool (false)]) []) (K (.exit 0) (unpackM (bitsM 5 0x0) []) []) | false => none) | false => none) | false => none)
  | _, _ => none

noncomputable def pc6_250 (fu : Nat) : Nat → Option ToldP := fun _ => none
theorem e6_250 (fu n : Nat) (R : Type) (K : VExit → UEnv → USt → Option R) (x : List (List D)) (x1 : Int) (x2 : Int) (d : Int) (r : Int) (r1 : List (List D)) (y : List (D × List D)) :
    F6_250 fu x x1 d (n + 1) x2 r r1 y (K .ret (unpackM (bitsM 5 0x10) [.bool (false)]) []) (K (.exit 0) (unpackM (bitsM 5 0x0) []) []) = uexec Try.prog (tb3 fu) 300 (pc6_250 fu) 500 (loopBody (codeAt code6 250)) (unpackM (bitsM 24 0xe00060) [.ptr 0 0, .ptr 1 0, .fz ft7 x false, .int .i64 x1, .int .i64 x2]) [.obj [.int .i64 d, .map 2], .obj [.int .i64 r, .fz ft5 r1 false], .map .str true ft0 y] (loopK 0 [.live (bitsM 24 0xe00060), .fzP 21 [] ft7, .gc, .fzC 1 1 ft5, .gc] [.live (bitsM 5 0x10), .gc] (pkP (bitsM 24 0xe00060) (t6_250 fu n)) K) := by kernel_rfl

theorem p6_250 (fu : Nat) : SoundPc Try.prog 0 code6 (pc6_250 fu) := SoundPc.none _ _ _
theorem s6_250 (fu : Nat) : ∀ n, SoundP Try.prog 0 (.loop (loopBody (codeAt code6 250))) (pkP (bitsM 24 0xe00060) (t6_250 fu n)) := by
  refine loopP_sound (gin := [.live (bitsM 24 0xe00060), .fzP 21 [] ft7, .gc, .fzC 1 1 ft5, .gc]) (gout := [.live (bitsM 5 0x10), .gc]) (k := 300) (tb3_sound fu) (p6_250 fu) (by decide) a6_250 (fun R e s K => ?_) (fun n R e s K r h => ?_)
  · unfold t6_250; repeat' split
    all_goals rfl
  · unfold t6_250 at h; split at h
    case h_2 => cases h
    split at h
    case h_2 => cases h
    rename_i hq
    have hq := FT.sames_eq _ _ hq
    subst hq
    split at h
    case h_2 => cases h
    rename_i hq
    have hq := FT.sames_eq _ _ hq
    subst hq
    split at h
    case h_2 => cases h
    rename_i hq
    have hq := FT.sames_eq _ _ hq
    subst hq
    exact (e6_250 fu n R K _ _ _ _ _ _ _).symm.trans h


noncomputable def Fb6 {R : Type} (fu : Nat) (room : Int) (l : List (List D)) (k0 : Bool → Option R) : Option R :=
  F21 fu l fun o_0 => bif !o_0 then F10 fu fun o_1 => (k0 o_1) else F11 fu room fun o_2 => F22 fu room fun o_3 => F6_250 fu l (ofN l.length) o_2 fu 0 (cell 0 o_3).toInt (cell 1 o_3).toRows [] ((k0 false)) (F10 fu fun o_4 => (k0 o_4))

noncomputable def F6 {R : Type} (fu : Nat) (room : Int) (l : List (List D)) (k0 : Bool → Option R) : Option R := shut (@Fb6 R) fu room l k0
theorem F6_eq {R : Type} (fu : Nat) (room : Int) (l : List (List D)) (k0 : Bool → Option R) : F6 fu room l k0 = Fb6 fu room l k0 := by unfold F6; rw [shut_eq]

noncomputable def pc6 (fu : Nat) : Nat → Option ToldP := fun p => match Nat.beq p 250 with | true => some (ghP 0 [.live (bitsM 24 0xe00060), .fzP 21 [] ft7, .gc, .fzC 1 1 ft5, .gc] (pkP (bitsM 24 0xe00060) (t6_250 fu fu))) | false => none
noncomputable def t6 (fu : Nat) : ToldF := fun _ args s K => match args, s with
  | [.int .i64 room, .fz zq0 l false], [] => (match FT.sames zq0 ft7 with | true => F6 fu room l (fun o_ => K (.bool o_) []) | false => none)
  | _, _ => none

theorem e6 (R : Type) (K : UV → USt → Option R) (fu : Nat) (room : Int) (l : List (List D)) :
    F6 fu room l (fun o_ => K (.bool o_) []) = ufun Try.prog ⟨(tb3 fu), pc6 fu⟩ 300 6 [.int .i64 room, .fz ft7 l false] [] (funK 0 [.gc] K) := (F6_eq fu _ _ _).trans (by kernel_rfl)

theorem s6 (fu : Nat) : Tells Try.prog 6 (t6 fu) := by
  refine ufun_sound (T := ⟨(tb3 fu), pc6 fu⟩) (m := 0) (gout := [.gc]) (k := 300) (tb3_sound fu) (fun fn body hf hb => ?_) (fun R args s K r h => ?_) (fun R args s K r h => ?_)
  · have hc : body = code6 := by
      have h1 : Try.prog.funcs[6]? = some Try.f6 := rfl
      rw [h1] at hf; cases hf
      have h2 : Try.f6.body = some code6 := rfl
      rw [h2] at hb; cases hb; rfl
    subst hc
    exact fun p told h b hb => by
      replace h : pc6 fu p = some told := h
      unfold pc6 at h
      split at h
      · rename_i hp
        cases h
        have := Nat.eq_of_beq_eq_true hp
        subst this
        rw [a6_250] at hb
        cases hb
        exact ghP_sound (s6_250 fu _)
      ·
        cases h

  · unfold t6 at h; split at h
    · rfl
    · cases h
  · unfold t6 at h; split at h
    case h_2 => cases h
    split at h
    case h_2 => cases h
    rename_i hq
    have hq := FT.sames_eq _ _ hq
    subst hq
    exact (e6 R K fu _ _).symm.trans h

noncomputable def tb6 (fu : Nat) : FuncId → Option (Bool × ToldF) := fun f => match Nat.beq f 6 with
  | true => some (false, ghG [.fzP 1 [] ft7] (t6 fu))
  | false => (tb3 fu) f
theorem tb6_sound (fu : Nat) : SoundF' Try.prog (tb6 fu) := by
  intro f own told h
  unfold tb6 at h
  split at h
  · rename_i hb
    cases h
    have := Nat.eq_of_beq_eq_true hb
    subst this
    exact ghG_sound (s6 fu)
  · exact (tb3_sound fu) f own told h

end Go.Proofs.Ytpaecfhgahheaaa.V

/- Printed by ugen: daisychain/daisychainlaw03.DiskApart -/
namespace Go.Proofs.Ytpaecfhgahheaaa.V
set_option maxRecDepth 100000
set_option maxHeartbeats 4000000


noncomputable def code7 : Code := match Try.f7.body with | some c => c | none => .skip
theorem a7_250 : codeAt code7 250 = some (.loop (loopBody (codeAt code7 250))) := by kernel_rfl
noncomputable def F7_250 {R : Type} (fu : Nat) (x : List (List D)) (x1 : Int) (d : Int) : Nat → Int → Int → (List (List D)) → (List (D × List D)) → (Int → (List (List D)) → (List (D × List D)) → Option R) → Option R
  | 0, _, _, _, _, _ => none
  | n + 1, x2, r, r1, y, k0 => bif decide (x2 < x1) then bif within x2 x.length then F23 fu [D.int r, D.row r1] [D.int (cell 0 (elem x2.toNat x)).toInt, D.str (cell 1 (elem x2.toNat x)).toStr, D.str (cell 2 (elem x2.toNat x)).toStr, D.row (cell 3 (elem x2.toNat x)).toRows, D.int (cell 4 (elem x2.toNat x)).toInt, D.row (cell 5 (elem x2.toNat x)).toRows] fun o_0 o_1 => F24 fu [D.int (cell 0 (elem x2.toNat x)).toInt, D.str (cell 1 (elem x2.toNat x)).toStr, D.str (cell 2 (elem x2.toNat x)).toStr, D.row (cell 3 (elem x2.toNat x)).toRows, D.int (cell 4 (elem x2.toNat x)).toInt, D.row (cell 5 (elem x2.toNat x)).toRows] d y fun o_2 o_3 => (F7_250 fu x x1 d n (IntKind.i64.wrap (x2 + 1)) ((cell 0 o_0).toInt) ((cell 1 o_0).toRows) o_3 k0) else none else (k0 r r1 y)

noncomputable def t7_250 (fu n : Nat) : ToldP := fun _ e s K => match e, s with
  | [.ptr 0 0, .ptr 1 0, .ptr 2 0, .fz zq0 x false, .int .i64 x1, .int .i64 x2], [.obj [.int .i64 ob, .str ob1, .str ob2, .fz zq1 ob3 false, .int .i64 ob4, .fz zq2 ob5 false], .obj [.int .i64 d, .map 3], .obj [.int .i64 r, .fz zq3 r1 false], .map .str true zq4 y] => (match FT.sames zq0 ft7 with | true => (match FT.sames zq1 ft1 with | true => (match FT.sames zq2 ft3 with | true => (match FT.sames zq3 ft5 with | true => (match FT.sames zq4 ft0 with | true => F7_250 fu x x1 d n x2 r r1 y (fun o_ o_1 o_2 => K (.exit 0) (unpackM (bitsM 7 0x68) [.ptr 0 0, .ptr 1 0, .ptr 2 0]) [.obj [.int .i64 (ob), .str (ob1), .str (ob2), .fz ft1 (ob3) false, .int .i64 (ob4), .fz ft3 (ob5) false], .obj [.int .i64 (d), .map 3], .obj [.int .i64 o_, .fz ft5 o_1 false], .map .str true ft0 o_2]) | false => none) | false => none) | false => none) | false => none) | false => none)
  | _, _ => none

noncomputable def pc7_250 (fu : Nat) : Nat → Option ToldP := fun _ => none
theorem e7_250 (fu n : Nat) (R : Type) (K : VExit → UEnv → USt → Option R) (x : List (List D)) (x1 : Int) (x2 : Int) (ob : Int) (ob1 : ByteArray) (ob2 : ByteArray) (ob3 : List (List D)) (ob4 : Int) (ob5 : List (List D)) (d : Int) (r : Int) (r1 : List (List D)) (y : List (D × List D)) :
    F7_250 fu x x1 d (n + 1) x2 r r1 y (fun o_ o_1 o_2 => K (.exit 0) (unpackM (bitsM 7 0x68) [.ptr 0 0, .ptr 1 0, .ptr 2 0]) [.obj [.int .i64 (ob), .str (ob1), .str (ob2), .fz ft1 (ob3) false, .int .i64 (ob4), .fz ft3 (ob5) false], .obj [.int .i64 (d), .map 3], .obj [.int .i64 o_, .fz ft5 o_1 false], .map .str true ft0 o_2]) = uexec Try.prog (tb6 fu) 300 (pc7_250 fu) 500 (loopBody (codeAt code7 250)) (unpackM (bitsM 40 0xe000000068) [.ptr 0 0, .ptr 1 0, .ptr 2 0, .fz ft7 x false, .int .i64 x1, .int .i64 x2]) [.obj [.int .i64 ob, .str ob1, .str ob2, .fz ft1 ob3 false, .int .i64 ob4, .fz ft3 ob5 false], .obj [.int .i64 d, .map 3], .obj [.int .i64 r, .fz ft5 r1 false], .map .str true ft0 y] (loopK 0 [.live (bitsM 40 0xe000000068), .fzP 37 [] ft7, .gc, .fzC 0 3 ft1, .fzC 0 5 ft3, .fzC 2 1 ft5, .gc] [.live (bitsM 7 0x78), .gc] (pkP (bitsM 40 0xe000000068) (t7_250 fu n)) K) := by kernel_rfl

theorem p7_250 (fu : Nat) : SoundPc Try.prog 0 code7 (pc7_250 fu) := SoundPc.none _ _ _
theorem s7_250 (fu : Nat) : ∀ n, SoundP Try.prog 0 (.loop (loopBody (codeAt code7 250))) (pkP (bitsM 40 0xe000000068) (t7_250 fu n)) := by
  refine loopP_sound (gin := [.live (bitsM 40 0xe000000068), .fzP 37 [] ft7, .gc, .fzC 0 3 ft1, .fzC 0 5 ft3, .fzC 2 1 ft5, .gc]) (gout := [.live (bitsM 7 0x78), .gc]) (k := 300) (tb6_sound fu) (p7_250 fu) (by decide) a7_250 (fun R e s K => ?_) (fun n R e s K r h => ?_)
  · unfold t7_250; repeat' split
    all_goals rfl
  · unfold t7_250 at h; split at h
    case h_2 => cases h
    split at h
    case h_2 => cases h
    rename_i hq
    have hq := FT.sames_eq _ _ hq
    subst hq
    split at h
    case h_2 => cases h
    rename_i hq
    have hq := FT.sames_eq _ _ hq
    subst hq
    split at h
    case h_2 => cases h
    rename_i hq
    have hq := FT.sames_eq _ _ hq
    subst hq
    split at h
    case h_2 => cases h
    rename_i hq
    have hq := FT.sames_eq _ _ hq
    subst hq
    split at h
    case h_2 => cases h
    rename_i hq
    have hq := FT.sames_eq _ _ hq
    subst hq
    exact (e7_250 fu n R K _ _ _ _ _ _ _ _ _ _ _ _ _).symm.trans h

theorem a7_1018 : codeAt code7 1018 = some (.loop (loopBody (codeAt code7 1018))) := by kernel_rfl
noncomputable def F7_1018 {R : Type} (fu : Nat) (x : List (List D)) (x1 : Int) (ob1 : ByteArray) (d : Int) (y : List (D × List D)) : Nat → Int → (Option R) → (Option R) → Option R
  | 0, _, _, _ => none
  | n + 1, x2, k0, k1 => bif decide (x2 < x1) then bif within x2 x.length then bif strEq (cell 0 (elem x2.toNat x)).toStr ob1 then (F7_1018 fu x x1 ob1 d y n (IntKind.i64.wrap (x2 + 1)) k0 k1) else F16 fu (cell 0 (elem x2.toNat x)).toStr d y fun o_0 o_1 => bif !decide (o_0 = 0) then (k0) else F18 fu o_1 (cell 1 (elem x2.toNat x)).toRows fun o_2 => bif !o_2 then (k0) else F15 fu (cell 0 (elem x2.toNat x)).toStr d y fun o_3 => bif !decide (o_3 = IntKind.i64.wrap (ofN (cell 1 (elem x2.toNat x)).toRows.length - (cell 2 (elem x2.toNat x)).toInt)) then (k0) else (F7_1018 fu x x1 ob1 d y n (IntKind.i64.wrap (x2 + 1)) k0 k1) else none else (k1)

noncomputable def t7_1018 (fu n : Nat) : ToldP := fun _ e s K => match e, s with
  | [.ptr 0 0, .ptr 1 0, .fz zq0 x false, .int .i64 x1, .int .i64 x2], [.obj [.int .i64 ob, .str ob1, .str ob2, .fz zq1 ob3 false, .int .i64 ob4, .fz zq2 ob5 false], .obj [.int .i64 d, .map 2], .map .str true zq3 y] => (match FT.sames zq0 ft5 with | true => (match FT.sames zq1 ft1 with | true => (match FT.sames zq2 ft3 with | true => (match FT.sames zq3 ft0 with | true => F7_1018 fu x x1 ob1 d y n x2 (K .ret (unpackM (bitsM 5 0x10) [.bool (false)]) []) (K (.exit 2) (unpackM (bitsM 5 0x0) []) []) | false => none) | false => none) | false => none) | false => none)
  | _, _ => none

noncomputable def pc7_1018 (fu : Nat) : Nat → Option ToldP := fun _ => none
theorem e7_1018 (fu n : Nat) (R : Type) (K : VExit → UEnv → USt → Option R) (x : List (List D)) (x1 : Int) (x2 : Int) (ob : Int) (ob1 : ByteArray) (ob2 : ByteArray) (ob3 : List (List D)) (ob4 : Int) (ob5 : List (List D)) (d : Int) (y : List (D × List D)) :
    F7_1018 fu x x1 ob1 d y (n + 1) x2 (K .ret (unpackM (bitsM 5 0x10) [.bool (false)]) []) (K (.exit 2) (unpackM (bitsM 5 0x0) []) []) = uexec Try.prog (tb6 fu) 300 (pc7_1018 fu) 2036 (loopBody (codeAt code7 1018)) (unpackM (bitsM 60 0xe00000000000028) [.ptr 0 0, .ptr 1 0, .fz ft5 x false, .int .i64 x1, .int .i64 x2]) [.obj [.int .i64 ob, .str ob1, .str ob2, .fz ft1 ob3 false, .int .i64 ob4, .fz ft3 ob5 false], .obj [.int .i64 d, .map 2], .map .str true ft0 y] (loopK 0 [.live (bitsM 60 0xe00000000000028), .fzP 57 [] ft5, .gc, .fzC 0 3 ft1, .fzC 0 5 ft3, .gc] [.live (bitsM 5 0x10), .gc] (pkP (bitsM 60 0xe00000000000028) (t7_1018 fu n)) K) := by kernel_rfl

theorem p7_1018 (fu : Nat) : SoundPc Try.prog 0 code7 (pc7_1018 fu) := SoundPc.none _ _ _
theorem s7_1018 (fu : Nat) : ∀ n, SoundP Try.prog 0 (.loop (loopBody (codeAt code7 1018))) (pkP (bitsM 60 0xe00000000000028) (t7_1018 fu n)) := by
  refine loopP_sound (gin := [.live (bitsM 60 0xe00000000000028), .fzP 57 [] ft5, .gc, .fzC 0 3 ft1, .fzC 0 5 ft3, .gc]) (gout := [.live (bitsM 5 0x10), .gc]) (k := 300) (tb6_sound fu) (p7_1018 fu) (by decide) a7_1018 (fun R e s K => ?_) (fun n R e s K r h => ?_)
  · unfold t7_1018; repeat' split
    all_goals rfl
  · unfold t7_1018 at h; split at h
    case h_2 => cases h
    split at h
    case h_2 => cases h
    rename_i hq
    have hq := FT.sames_eq _ _ hq
    subst hq
    split at h
    case h_2 => cases h
    rename_i hq
    have hq := FT.sames_eq _ _ hq
    subst hq
    split at h
    case h_2 => cases h
    rename_i hq
    have hq := FT.sames_eq _ _ hq
    subst hq
    split at h
    case h_2 => cases h
    rename_i hq
    have hq := FT.sames_eq _ _ hq
    subst hq
    exact (e7_1018 fu n R K _ _ _ _ _ _ _ _ _ _ _).symm.trans h


noncomputable def Fb7 {R : Type} (fu : Nat) (l : List (List D)) (o_ : List D) (k0 : Bool → Option R) : Option R :=
  F21 fu l fun o_0 => bif !o_0 then F10 fu fun o_1 => (k0 o_1) else F21 fu [[D.int (cell 0 o_).toInt, D.str (cell 1 o_).toStr, D.str (cell 2 o_).toStr, D.row (cell 3 o_).toRows, D.int (cell 4 o_).toInt, D.row (cell 5 o_).toRows]] fun o_2 => bif !o_2 then F10 fu fun o_3 => (k0 o_3) else bif decide ((cell 0 o_).toInt < 0) then F10 fu fun o_4 => (k0 o_4) else bif decide (3 < (cell 0 o_).toInt) then F10 fu fun o_5 => (k0 o_5) else F11 fu 8000 fun o_6 => F22 fu 8000 fun o_7 => F7_250 fu l (ofN l.length) o_6 fu 0 (cell 0 o_7).toInt (cell 1 o_7).toRows [] fun o_8 o_9 o_10 => F24 fu [D.int (cell 0 o_).toInt, D.str (cell 1 o_).toStr, D.str (cell 2 o_).toStr, D.row (cell 3 o_).toRows, D.int (cell 4 o_).toInt, D.row (cell 5 o_).toRows] o_6 o_10 fun o_11 o_12 => F7_1018 fu o_9 (ofN o_9.length) (cell 1 o_).toStr o_6 o_12 fu 0 ((k0 false)) (F10 fu fun o_13 => (k0 o_13))

noncomputable def F7 {R : Type} (fu : Nat) (l : List (List D)) (o_ : List D) (k0 : Bool → Option R) : Option R := shut (@Fb7 R) fu l o_ k0
theorem F7_eq {R : Type} (fu : Nat) (l : List (List D)) (o_ : List D) (k0 : Bool → Option R) : F7 fu l o_ k0 = Fb7 fu l o_ k0 := by unfold F7; rw [shut_eq]

noncomputable def pc7 (fu : Nat) : Nat → Option ToldP := fun p => match Nat.beq p 250 with | true => some (ghP 0 [.live (bitsM 40 0xe000000068), .fzP 37 [] ft7, .gc, .fzC 0 3 ft1, .fzC 0 5 ft3, .fzC 2 1 ft5, .gc] (pkP (bitsM 40 0xe000000068) (t7_250 fu fu))) | false => match Nat.beq p 1018 with | true => some (ghP 0 [.live (bitsM 60 0xe00000000000028), .fzP 57 [] ft5, .gc, .fzC 0 3 ft1, .fzC 0 5 ft3, .gc] (pkP (bitsM 60 0xe00000000000028) (t7_1018 fu fu))) | false => none
noncomputable def t7 (fu : Nat) : ToldF := fun _ args s K => match args, s with
  | [.fz zq0 l false, .agg [.int .i64 q, .str q1, .str q2, .fz zq1 q3 false, .int .i64 q4, .fz zq2 q5 false]], [] => (match FT.sames zq0 ft7 with | true => (match FT.sames zq1 ft1 with | true => (match FT.sames zq2 ft3 with | true => F7 fu l [D.int q, D.str q1, D.str q2, D.row q3, D.int q4, D.row q5] (fun o_ => K (.bool o_) []) | false => none) | false => none) | false => none)
  | _, _ => none

theorem e7 (R : Type) (K : UV → USt → Option R) (fu : Nat) (l : List (List D)) (q : Int) (q1 : ByteArray) (q2 : ByteArray) (q3 : List (List D)) (q4 : Int) (q5 : List (List D)) :
    F7 fu l [D.int q, D.str q1, D.str q2, D.row q3, D.int q4, D.row q5] (fun o_ => K (.bool o_) []) = ufun Try.prog ⟨(tb6 fu), pc7 fu⟩ 300 7 [.fz ft7 l false, .agg [.int .i64 q, .str q1, .str q2, .fz ft1 q3 false, .int .i64 q4, .fz ft3 q5 false]] [] (funK 0 [.gc] K) := (F7_eq fu _ _ _).trans (by kernel_rfl)

theorem s7 (fu : Nat) : Tells Try.prog 7 (t7 fu) := by
  refine ufun_sound (T := ⟨(tb6 fu), pc7 fu⟩) (m := 0) (gout := [.gc]) (k := 300) (tb6_sound fu) (fun fn body hf hb => ?_) (fun R args s K r h => ?_) (fun R args s K r h => ?_)
  · have hc : body = code7 := by
      have h1 : Try.prog.funcs[7]? = some Try.f7 := rfl
      rw [h1] at hf; cases hf
      have h2 : Try.f7.body = some code7 := rfl
      rw [h2] at hb; cases hb; rfl
    subst hc
    exact fun p told h b hb => by
      replace h : pc7 fu p = some told := h
      unfold pc7 at h
      split at h
      · rename_i hp
        cases h
        have := Nat.eq_of_beq_eq_true hp
        subst this
        rw [a7_250] at hb
        cases hb
        exact ghP_sound (s7_250 fu _)
      ·
        split at h
        · rename_i hp
          cases h
          have := Nat.eq_of_beq_eq_true hp
          subst this
          rw [a7_1018] at hb
          cases hb
          exact ghP_sound (s7_1018 fu _)
        ·
          cases h

  · unfold t7 at h; split at h
    · rfl
    · cases h
  · unfold t7 at h; split at h
    case h_2 => cases h
    split at h
    case h_2 => cases h
    rename_i hq
    have hq := FT.sames_eq _ _ hq
    subst hq
    split at h
    case h_2 => cases h
    rename_i hq
    have hq := FT.sames_eq _ _ hq
    subst hq
    split at h
    case h_2 => cases h
    rename_i hq
    have hq := FT.sames_eq _ _ hq
    subst hq
    exact (e7 R K fu _ _ _ _ _ _ _).symm.trans h

noncomputable def tb7 (fu : Nat) : FuncId → Option (Bool × ToldF) := fun f => match Nat.beq f 7 with
  | true => some (false, ghG [.fzP 0 [] ft7, .fzP 1 [3] ft1, .fzP 1 [5] ft3] (t7 fu))
  | false => (tb6 fu) f
theorem tb7_sound (fu : Nat) : SoundF' Try.prog (tb7 fu) := by
  intro f own told h
  unfold tb7 at h
  split at h
  · rename_i hb
    cases h
    have := Nat.eq_of_beq_eq_true hb
    subst this
    exact ghG_sound (s7 fu)
  · exact (tb6_sound fu) f own told h

end Go.Proofs.Ytpaecfhgahheaaa.V

/- Printed by ugen: daisychain/daisychainlaw03.DiskKeeps -/
namespace Go.Proofs.Ytpaecfhgahheaaa.V
set_option maxRecDepth 100000
set_option maxHeartbeats 4000000


noncomputable def code8 : Code := match Try.f8.body with | some c => c | none => .skip
theorem a8_250 : codeAt code8 250 = some (.loop (loopBody (codeAt code8 250))) := by kernel_rfl
noncomputable def F8_250 {R : Type} (fu : Nat) (x : List (List D)) (x1 : Int) (d : Int) : Nat → Int → (List (D × List D)) → ((List (D × List D)) → Option R) → Option R
  | 0, _, _, _ => none
  | n + 1, x2, y, k0 => bif decide (x2 < x1) then bif within x2 x.length then F24 fu [D.int (cell 0 (elem x2.toNat x)).toInt, D.str (cell 1 (elem x2.toNat x)).toStr, D.str (cell 2 (elem x2.toNat x)).toStr, D.row (cell 3 (elem x2.toNat x)).toRows, D.int (cell 4 (elem x2.toNat x)).toInt, D.row (cell 5 (elem x2.toNat x)).toRows] d y fun o_0 o_1 => (F8_250 fu x x1 d n (IntKind.i64.wrap (x2 + 1)) o_1 k0) else none else (k0 y)

noncomputable def t8_250 (fu n : Nat) : ToldP := fun _ e s K => match e, s with
  | [.fz zq0 keep false, .ptr 0 0, .fz zq1 x false, .int .i64 x1, .int .i64 x2], [.obj [.int .i64 d, .map 1], .map .str true zq2 y] => (match FT.sames zq0 ft3 with | true => (match FT.sames zq1 ft7 with | true => (match FT.sames zq2 ft0 with | true => F8_250 fu x x1 d n x2 y (fun o_ => K (.exit 0) (unpackM (bitsM 8 0x84) [.fz ft3 (keep) false, .ptr 0 0]) [.obj [.int .i64 (d), .map 1], .map .str true ft0 o_]) | false => none) | false => none) | false => none)
  | _, _ => none

noncomputable def pc8_250 (fu : Nat) : Nat → Option ToldP := fun _ => none
theorem e8_250 (fu n : Nat) (R : Type) (K : VExit → UEnv → USt → Option R) (keep : List (List D)) (x : List (List D)) (x1 : Int) (x2 : Int) (d : Int) (y : List (D × List D)) :
    F8_250 fu x x1 d (n + 1) x2 y (fun o_ => K (.exit 0) (unpackM (bitsM 8 0x84) [.fz ft3 (keep) false, .ptr 0 0]) [.obj [.int .i64 (d), .map 1], .map .str true ft0 o_]) = uexec Try.prog (tb7 fu) 300 (pc8_250 fu) 500 (loopBody (codeAt code8 250)) (unpackM (bitsM 29 0x1c000084) [.fz ft3 keep false, .ptr 0 0, .fz ft7 x false, .int .i64 x1, .int .i64 x2]) [.obj [.int .i64 d, .map 1], .map .str true ft0 y] (loopK 0 [.live (bitsM 29 0x1c000084), .fzP 2 [] ft3, .fzP 26 [] ft7, .gc] [.live (bitsM 8 0xc4), .gc] (pkP (bitsM 29 0x1c000084) (t8_250 fu n)) K) := by kernel_rfl

theorem p8_250 (fu : Nat) : SoundPc Try.prog 0 code8 (pc8_250 fu) := SoundPc.none _ _ _
theorem s8_250 (fu : Nat) : ∀ n, SoundP Try.prog 0 (.loop (loopBody (codeAt code8 250))) (pkP (bitsM 29 0x1c000084) (t8_250 fu n)) := by
  refine loopP_sound (gin := [.live (bitsM 29 0x1c000084), .fzP 2 [] ft3, .fzP 26 [] ft7, .gc]) (gout := [.live (bitsM 8 0xc4), .gc]) (k := 300) (tb7_sound fu) (p8_250 fu) (by decide) a8_250 (fun R e s K => ?_) (fun n R e s K r h => ?_)
  · unfold t8_250; repeat' split
    all_goals rfl
  · unfold t8_250 at h; split at h
    case h_2 => cases h
    split at h
    case h_2 => cases h
    rename_i hq
    have hq := FT.sames_eq _ _ hq
    subst hq
    split at h
    case h_2 => cases h
    rename_i hq
    have hq := FT.sames_eq _ _ hq
    subst hq
    split at h
    case h_2 => cases h
    rename_i hq
    have hq := FT.sames_eq _ _ hq
    subst hq
    exact (e8_250 fu n R K _ _ _ _ _ _).symm.trans h

theorem a8_4090 : codeAt code8 4090 = some (.loop (loopBody (codeAt code8 4090))) := by kernel_rfl
noncomputable def F8_4090 {R : Type} (fu : Nat) (x : Int) (d : Int) (was : Int) (x2 : List (List D)) (y : List (D × List D)) (y1 : List (D × List D)) : Nat → Int → (Option R) → (Option R) → Option R
  | 0, _, _, _ => none
  | n + 1, x1, k0, k1 => bif decide (x1 < x) then bif within x1 x2.length then F16 fu (cell 0 (elem x1.toNat x2)).toStr was y1 fun o_0 o_1 => F16 fu (cell 0 (elem x1.toNat x2)).toStr d y fun o_2 o_3 => bif !decide (o_0 = 0) then (k0) else bif !decide (o_2 = 0) then (k0) else bif decide (ofN o_1.length < ofN o_3.length) then (k0) else bif decide ((0 : Int) ≤ 0 ∧ 0 ≤ ofN o_3.length) && upTo (ofN o_3.length) o_1.length then F18 fu o_3 (part o_1 0 (ofN o_3.length).toNat) fun o_4 => bif !o_4 then (k0) else F15 fu (cell 0 (elem x1.toNat x2)).toStr was y1 fun o_5 => bif decide (ofN o_3.length < IntKind.i64.wrap (ofN o_1.length - o_5)) then (k0) else F15 fu (cell 0 (elem x1.toNat x2)).toStr d y fun o_6 => bif !decide (o_6 = 0) then (k0) else (F8_4090 fu x d was x2 y y1 n (IntKind.i64.wrap (x1 + 1)) k0 k1) else none else none else (k1)

noncomputable def t8_4090 (fu n : Nat) : ToldP := fun _ e s K => match e, s with
  | [.ptr 0 0, .ptr 1 0, .own 2, .int .i64 x, .int .i64 x1], [.obj [.int .i64 d, .map 3], .obj [.int .i64 was, .map 4], .row zq0 x2, .map .str true zq1 y, .map .str true zq2 y1] => (match FT.sames zq0 ft4 with | true => (match FT.sames zq1 ft0 with | true => (match FT.sames zq2 ft0 with | true => F8_4090 fu x d was x2 y y1 n x1 (K .ret (unpackM (bitsM 11 0x4c0) [.bool (false), .ptr 0 0, .ptr 1 0]) [.obj [.int .i64 (d), .map 2], .obj [.int .i64 (was), .map 3], .map .str true ft0 (y), .map .str true ft0 (y1)]) (K (.exit 2) (unpackM (bitsM 11 0x480) [.ptr 0 0, .ptr 1 0]) [.obj [.int .i64 (d), .map 2], .obj [.int .i64 (was), .map 3], .map .str true ft0 (y), .map .str true ft0 (y1)]) | false => none) | false => none) | false => none)
  | _, _ => none

noncomputable def pc8_4090 (fu : Nat) : Nat → Option ToldP := fun _ => none
theorem e8_4090 (fu n : Nat) (R : Type) (K : VExit → UEnv → USt → Option R) (x : Int) (x1 : Int) (d : Int) (was : Int) (x2 : List (List D)) (y : List (D × List D)) (y1 : List (D × List D)) :
    F8_4090 fu x d was x2 y y1 (n + 1) x1 (K .ret (unpackM (bitsM 11 0x4c0) [.bool (false), .ptr 0 0, .ptr 1 0]) [.obj [.int .i64 (d), .map 2], .obj [.int .i64 (was), .map 3], .map .str true ft0 (y), .map .str true ft0 (y1)]) (K (.exit 2) (unpackM (bitsM 11 0x480) [.ptr 0 0, .ptr 1 0]) [.obj [.int .i64 (d), .map 2], .obj [.int .i64 (was), .map 3], .map .str true ft0 (y), .map .str true ft0 (y1)]) = uexec Try.prog (tb7 fu) 300 (pc8_4090 fu) 8180 (loopBody (codeAt code8 4090)) (unpackM (bitsM 47 0x700000000480) [.ptr 0 0, .ptr 1 0, .own 2, .int .i64 x, .int .i64 x1]) [.obj [.int .i64 d, .map 3], .obj [.int .i64 was, .map 4], .row ft4 x2, .map .str true ft0 y, .map .str true ft0 y1] (loopK 0 [.live (bitsM 47 0x700000000480), .ownP 44 [] ft4, .gc] [.live (bitsM 11 0x4c0), .gc] (pkP (bitsM 47 0x700000000480) (t8_4090 fu n)) K) := by kernel_rfl

theorem p8_4090 (fu : Nat) : SoundPc Try.prog 0 code8 (pc8_4090 fu) := SoundPc.none _ _ _
theorem s8_4090 (fu : Nat) : ∀ n, SoundP Try.prog 0 (.loop (loopBody (codeAt code8 4090))) (pkP (bitsM 47 0x700000000480) (t8_4090 fu n)) := by
  refine loopP_sound (gin := [.live (bitsM 47 0x700000000480), .ownP 44 [] ft4, .gc]) (gout := [.live (bitsM 11 0x4c0), .gc]) (k := 300) (tb7_sound fu) (p8_4090 fu) (by decide) a8_4090 (fun R e s K => ?_) (fun n R e s K r h => ?_)
  · unfold t8_4090; repeat' split
    all_goals rfl
  · unfold t8_4090 at h; split at h
    case h_2 => cases h
    split at h
    case h_2 => cases h
    rename_i hq
    have hq := FT.sames_eq _ _ hq
    subst hq
    split at h
    case h_2 => cases h
    rename_i hq
    have hq := FT.sames_eq _ _ hq
    subst hq
    split at h
    case h_2 => cases h
    rename_i hq
    have hq := FT.sames_eq _ _ hq
    subst hq
    exact (e8_4090 fu n R K _ _ _ _ _ _ _).symm.trans h


noncomputable def Fb8 {R : Type} (fu : Nat) (room : Int) (l : List (List D)) (keep : List (List D)) (k0 : Bool → Option R) : Option R :=
  F21 fu l fun o_0 => bif !o_0 then F10 fu fun o_1 => (k0 o_1) else F11 fu room fun o_2 => F8_250 fu l (ofN l.length) o_2 fu 0 [] fun o_3 => F26 fu o_2 o_3 (F17 fu keep o_2 o_3 fun o_4 => bif keysOK o_3 then F8_4090 fu (ofN (keysD o_3).length) o_2 o_2 (keysD o_3) o_4 o_3 fu 0 ((k0 false)) (bif keysOK o_4 then F17 fu [[D.int 1], [D.int 2], [D.int 3]] o_2 o_4 fun o_5 => bif keysOK o_5 then bif decide (usedD o_5 = usedD o_4) then bif keysOK o_5 then bif keysOK o_3 then bif decide (ofN (keysD o_5).length = ofN (keysD o_3).length) then F10 fu fun o_6 => (k0 o_6) else (k0 false) else none else none else (k0 false) else none else none) else none)

noncomputable def F8 {R : Type} (fu : Nat) (room : Int) (l : List (List D)) (keep : List (List D)) (k0 : Bool → Option R) : Option R := shut (@Fb8 R) fu room l keep k0
theorem F8_eq {R : Type} (fu : Nat) (room : Int) (l : List (List D)) (keep : List (List D)) (k0 : Bool → Option R) : F8 fu room l keep k0 = Fb8 fu room l keep k0 := by unfold F8; rw [shut_eq]

noncomputable def pc8 (fu : Nat) : Nat → Option ToldP := fun p => match Nat.beq p 250 with | true => some (ghP 0 [.live (bitsM 29 0x1c000084), .fzP 2 [] ft3, .fzP 26 [] ft7, .gc] (pkP (bitsM 29 0x1c000084) (t8_250 fu fu))) | false => match Nat.beq p 4090 with | true => some (ghP 0 [.live (bitsM 47 0x700000000480), .ownP 44 [] ft4, .gc] (pkP (bitsM 47 0x700000000480) (t8_4090 fu fu))) | false => none
noncomputable def t8 (fu : Nat) : ToldF := fun _ args s K => match args, s with
  | [.int .i64 room, .fz zq0 l false, .fz zq1 keep false], [] => (match FT.sames zq0 ft7 with | true => (match FT.sames zq1 ft3 with | true => F8 fu room l keep (fun o_ => K (.bool o_) []) | false => none) | false => none)
  | _, _ => none

theorem e8 (R : Type) (K : UV → USt → Option R) (fu : Nat) (room : Int) (l : List (List D)) (keep : List (List D)) :
    F8 fu room l keep (fun o_ => K (.bool o_) []) = ufun Try.prog ⟨(tb7 fu), pc8 fu⟩ 300 8 [.int .i64 room, .fz ft7 l false, .fz ft3 keep false] [] (funK 0 [.gc] K) := (F8_eq fu _ _ _ _).trans (by kernel_rfl)

theorem s8 (fu : Nat) : Tells Try.prog 8 (t8 fu) := by
  refine ufun_sound (T := ⟨(tb7 fu), pc8 fu⟩) (m := 0) (gout := [.gc]) (k := 300) (tb7_sound fu) (fun fn body hf hb => ?_) (fun R args s K r h => ?_) (fun R args s K r h => ?_)
  · have hc : body = code8 := by
      have h1 : Try.prog.funcs[8]? = some Try.f8 := rfl
      rw [h1] at hf; cases hf
      have h2 : Try.f8.body = some code8 := rfl
      rw [h2] at hb; cases hb; rfl
    subst hc
    exact fun p told h b hb => by
      replace h : pc8 fu p = some told := h
      unfold pc8 at h
      split at h
      · rename_i hp
        cases h
        have := Nat.eq_of_beq_eq_true hp
        subst this
        rw [a8_250] at hb
        cases hb
        exact ghP_sound (s8_250 fu _)
      ·
        split at h
        · rename_i hp
          cases h
          have := Nat.eq_of_beq_eq_true hp
          subst this
          rw [a8_4090] at hb
          cases hb
          exact ghP_sound (s8_4090 fu _)
        ·
          cases h

  · unfold t8 at h; split at h
    · rfl
    · cases h
  · unfold t8 at h; split at h
    case h_2 => cases h
    split at h
    case h_2 => cases h
    rename_i hq
    have hq := FT.sames_eq _ _ hq
    subst hq
    split at h
    case h_2 => cases h
    rename_i hq
    have hq := FT.sames_eq _ _ hq
    subst hq
    exact (e8 R K fu _ _ _).symm.trans h

noncomputable def tb8 (fu : Nat) : FuncId → Option (Bool × ToldF) := fun f => match Nat.beq f 8 with
  | true => some (false, ghG [.fzP 1 [] ft7, .fzP 2 [] ft3] (t8 fu))
  | false => (tb7 fu) f
theorem tb8_sound (fu : Nat) : SoundF' Try.prog (tb8 fu) := by
  intro f own told h
  unfold tb8 at h
  split at h
  · rename_i hb
    cases h
    have := Nat.eq_of_beq_eq_true hb
    subst this
    exact ghG_sound (s8 fu)
  · exact (tb7_sound fu) f own told h

end Go.Proofs.Ytpaecfhgahheaaa.V

/- Printed by ugen: daisychain/daisychainlaw03.DiskCopies -/
namespace Go.Proofs.Ytpaecfhgahheaaa.V
set_option maxRecDepth 100000
set_option maxHeartbeats 4000000


noncomputable def code9 : Code := match Try.f9.body with | some c => c | none => .skip
theorem a9_250 : codeAt code9 250 = some (.loop (loopBody (codeAt code9 250))) := by kernel_rfl
noncomputable def F9_250 {R : Type} (fu : Nat) (x : List (List D)) (x1 : Int) (d : Int) : Nat → Int → Int → (List (List D)) → (List (D × List D)) → (Int → (List (List D)) → (List (D × List D)) → Option R) → Option R
  | 0, _, _, _, _, _ => none
  | n + 1, x2, r, r1, y, k0 => bif decide (x2 < x1) then bif within x2 x.length then F23 fu [D.int r, D.row r1] [D.int (cell 0 (elem x2.toNat x)).toInt, D.str (cell 1 (elem x2.toNat x)).toStr, D.str (cell 2 (elem x2.toNat x)).toStr, D.row (cell 3 (elem x2.toNat x)).toRows, D.int (cell 4 (elem x2.toNat x)).toInt, D.row (cell 5 (elem x2.toNat x)).toRows] fun o_0 o_1 => F24 fu [D.int (cell 0 (elem x2.toNat x)).toInt, D.str (cell 1 (elem x2.toNat x)).toStr, D.str (cell 2 (elem x2.toNat x)).toStr, D.row (cell 3 (elem x2.toNat x)).toRows, D.int (cell 4 (elem x2.toNat x)).toInt, D.row (cell 5 (elem x2.toNat x)).toRows] d y fun o_2 o_3 => (F9_250 fu x x1 d n (IntKind.i64.wrap (x2 + 1)) ((cell 0 o_0).toInt) ((cell 1 o_0).toRows) o_3 k0) else none else (k0 r r1 y)

noncomputable def t9_250 (fu n : Nat) : ToldP := fun _ e s K => match e, s with
  | [.ptr 0 0, .ptr 1 0, .ptr 2 0, .fz zq0 x false, .int .i64 x1, .int .i64 x2], [.obj [.int .i64 ob, .str ob1, .str ob2, .fz zq1 ob3 false, .int .i64 ob4, .fz zq2 ob5 false], .obj [.int .i64 d, .map 3], .obj [.int .i64 r, .fz zq3 r1 false], .map .str true zq4 y] => (match FT.sames zq0 ft7 with | true => (match FT.sames zq1 ft1 with | true => (match FT.sames zq2 ft3 with | true => (match FT.sames zq3 ft5 with | true => (match FT.sames zq4 ft0 with | true => F9_250 fu x x1 d n x2 r r1 y (fun o_ o_1 o_2 => K (.exit 0) (unpackM (bitsM 7 0x68) [.ptr 0 0, .ptr 1 0, .ptr 2 0]) [.obj [.int .i64 (ob), .str (ob1), .str (ob2), .fz ft1 (ob3) false, .int .i64 (ob4), .fz ft3 (ob5) false], .obj [.int .i64 (d), .map 3], .obj [.int .i64 o_, .fz ft5 o_1 false], .map .str true ft0 o_2]) | false => none) | false => none) | false => none) | false => none) | false => none)
  | _, _ => none

noncomputable def pc9_250 (fu : Nat) : Nat → Option ToldP := fun _ => none
theorem e9_250 (fu n : Nat) (R : Type) (K : VExit → UEnv → USt → Option R) (x : List (List D)) (x1 : Int) (x2 : Int) (ob : Int) (ob1 : ByteArray) (ob2 : ByteArray) (ob3 : List (List D)) (ob4 : Int) (ob5 : List (List D)) (d : Int) (r : Int) (r1 : List (List D)) (y : List (D × List D)) :
    F9_250 fu x x1 d (n + 1) x2 r r1 y (fun o_ o_1 o_2 => K (.exit 0) (unpackM (bitsM 7 0x68) [.ptr 0 0, .ptr 1 0, .ptr 2 0]) [.obj [.int .i64 (ob), .str (ob1), .str (ob2), .fz ft1 (ob3) false, .int .i64 (ob4), .fz ft3 (ob5) false], .obj [.int .i64 (d), .map 3], .obj [.int .i64 o_, .fz ft5 o_1 false], .map .str true ft0 o_2]) = uexec Try.prog (tb8 fu) 300 (pc9_250 fu) 500 (loopBody (codeAt code9 250)) (unpackM (bitsM 40 0xe000000068) [.ptr 0 0, .ptr 1 0, .ptr 2 0, .fz ft7 x false, .int .i64 x1, .int .i64 x2]) [.obj [.int .i64 ob, .str ob1, .str ob2, .fz ft1 ob3 false, .int .i64 ob4, .fz ft3 ob5 false], .obj [.int .i64 d, .map 3], .obj [.int .i64 r, .fz ft5 r1 false], .map .str true ft0 y] (loopK 0 [.live (bitsM 40 0xe000000068), .fzP 37 [] ft7, .gc, .fzC 0 3 ft1, .fzC 0 5 ft3, .fzC 2 1 ft5, .gc] [.live (bitsM 7 0x78), .gc] (pkP (bitsM 40 0xe000000068) (t9_250 fu n)) K) := by kernel_rfl

theorem p9_250 (fu : Nat) : SoundPc Try.prog 0 code9 (pc9_250 fu) := SoundPc.none _ _ _
theorem s9_250 (fu : Nat) : ∀ n, SoundP Try.prog 0 (.loop (loopBody (codeAt code9 250))) (pkP (bitsM 40 0xe000000068) (t9_250 fu n)) := by
  refine loopP_sound (gin := [.live (bitsM 40 0xe000000068), .fzP 37 [] ft7, .gc, .fzC 0 3 ft1, .fzC 0 5 ft3, .fzC 2 1 ft5, .gc]) (gout := [.live (bitsM 7 0x78), .gc]) (k := 300) (tb8_sound fu) (p9_250 fu) (by decide) a9_250 (fun R e s K => ?_) (fun n R e s K r h => ?_)
  · unfold t9_250; repeat' split
    all_goals rfl
  · unfold t9_250 at h; split at h
    case h_2 => cases h
    split at h
    case h_2 => cases h
    rename_i hq
    have hq := FT.sames_eq _ _ hq
    subst hq
    split at h
    case h_2 => cases h
    rename_i hq
    have hq := FT.sames_eq _ _ hq
    subst hq
    split at h
    case h_2 => cases h
    rename_i hq
    have hq := FT.sames_eq _ _ hq
    subst hq
    split at h
    case h_2 => cases h
    rename_i hq
    have hq := FT.sames_eq _ _ hq
    subst hq
    split at h
    case h_2 => cases h
    rename_i hq
    have hq := FT.sames_eq _ _ hq
    subst hq
    exact (e9_250 fu n R K _ _ _ _ _ _ _ _ _ _ _ _ _).symm.trans h

theorem a9_4090 : codeAt code9 4090 = some (.loop (loopBody (codeAt code9 4090))) := by kernel_rfl
theorem a9_2094286 : codeAt code9 2094286 = some (.loop (loopBody (codeAt code9 2094286))) := by kernel_rfl
noncomputable def F9_2094286 {R : Type} (fu : Nat) (x2 : Int) : Nat → Int → (List (List D)) → (Option R) → Option R
  | 0, _, _, _ => none
  | n + 1, x3, b, k0 => bif decide (x3 < x2) then bif within x3 b.length then bif within x3 b.length then (F9_2094286 fu x2 n (IntKind.i64.wrap (x3 + 1)) (putAt b x3.toNat 0 [D.int (IntKind.u8.wrap ((cell 0 (elem x3.toNat b)).toInt + 1))]) k0) else none else none else (k0)

noncomputable def t9_2094286 (fu n : Nat) : ToldP := fun _ e s K => match e, s with
  | [.ptr 0 0, .ptr 1 0, .own 2, .own 3, .int .i64 x, .int .i64 x1, .int .i64 x2, .int .i64 x3], [.obj [.int .i64 d, .map 4], .obj [.int .i64 r, .fz zq0 r1 false], .row zq1 b, .row zq2 x4, .map .str true zq3 y] => (match FT.sames zq0 ft5 with | true => (match FT.sames zq1 ft1 with | true => (match FT.sames zq2 ft4 with | true => (match FT.sames zq3 ft0 with | true => F9_2094286 fu x2 n x3 b (K (.exit 4) (unpackM (bitsM 64 0xe000000000000060) [.ptr 0 0, .ptr 1 0, .own 2, .int .i64 (x), .int .i64 (x1)]) [.obj [.int .i64 (d), .map 3], .obj [.int .i64 (r), .fz ft5 (r1) false], .row ft4 (x4), .map .str true ft0 (y)]) | false => none) | false => none) | false => none) | false => none)
  | _, _ => none

noncomputable def pc9_2094286 (fu : Nat) : Nat → Option ToldP := fun _ => none
theorem e9_2094286 (fu n : Nat) (R : Type) (K : VExit → UEnv → USt → Option R) (x : Int) (x1 : Int) (x2 : Int) (x3 : Int) (d : Int) (r : Int) (r1 : List (List D)) (b : List (List D)) (x4 : List (List D)) (y : List (D × List D)) :
    F9_2094286 fu x2 (n + 1) x3 b (K (.exit 4) (unpackM (bitsM 64 0xe000000000000060) [.ptr 0 0, .ptr 1 0, .own 2, .int .i64 (x), .int .i64 (x1)]) [.obj [.int .i64 (d), .map 3], .obj [.int .i64 (r), .fz ft5 (r1) false], .row ft4 (x4), .map .str true ft0 (y)]) = uexec Try.prog (tb8 fu) 300 (pc9_2094286 fu) 4188572 (loopBody (codeAt code9 2094286)) (unpackM (bitsM 76 0xc00e000000000001060) [.ptr 0 0, .ptr 1 0, .own 2, .own 3, .int .i64 x, .int .i64 x1, .int .i64 x2, .int .i64 x3]) [.obj [.int .i64 d, .map 4], .obj [.int .i64 r, .fz ft5 r1 false], .row ft1 b, .row ft4 x4, .map .str true ft0 y] (loopK 0 [.live (bitsM 76 0xc00e000000000001060), .ownP 12 [] ft1, .ownP 61 [] ft4, .gc, .fzC 1 1 ft5, .gc] [.live (bitsM 64 0xe000000000000070), .gc] (pkP (bitsM 76 0xc00e000000000001060) (t9_2094286 fu n)) K) := by kernel_rfl

theorem p9_2094286 (fu : Nat) : SoundPc Try.prog 0 code9 (pc9_2094286 fu) := SoundPc.none _ _ _
theorem s9_2094286 (fu : Nat) : ∀ n, SoundP Try.prog 0 (.loop (loopBody (codeAt code9 2094286))) (pkP (bitsM 76 0xc00e000000000001060) (t9_2094286 fu n)) := by
  refine loopP_sound (gin := [.live (bitsM 76 0xc00e000000000001060), .ownP 12 [] ft1, .ownP 61 [] ft4, .gc, .fzC 1 1 ft5, .gc]) (gout := [.live (bitsM 64 0xe000000000000070), .gc]) (k := 300) (tb8_sound fu) (p9_2094286 fu) (by decide) a9_2094286 (fun R e s K => ?_) (fun n R e s K r h => ?_)
  · unfold t9_2094286; repeat' split
    all_goals rfl
  · unfold t9_2094286 at h; split at h
    case h_2 => cases h
    split at h
    case h_2 => cases h
    rename_i hq
    have hq := FT.sames_eq _ _ hq
    subst hq
    split at h
    case h_2 => cases h
    rename_i hq
    have hq := FT.sames_eq _ _ hq
    subst hq
    split at h
    case h_2 => cases h
    rename_i hq
    have hq := FT.sames_eq _ _ hq
    subst hq
    split at h
    case h_2 => cases h
    rename_i hq
    have hq := FT.sames_eq _ _ hq
    subst hq
    exact (e9_2094286 fu n R K _ _ _ _ _ _ _ _ _ _).symm.trans h

noncomputable def F9_4090 {R : Type} (fu : Nat) (x : Int) (d : Int) (x2 : List (List D)) (y : List (D × List D)) : Nat → Int → (Option R) → Option R
  | 0, _, _ => none
  | n + 1, x1, k0 => bif decide (x1 < x) then bif within x1 x2.length then F16 fu (cell 0 (elem x1.toNat x2)).toStr d y fun o_0 o_1 => F9_2094286 fu (ofN o_1.length) fu 0 o_1 ((F9_4090 fu x d x2 y n (IntKind.i64.wrap (x1 + 1)) k0)) else none else (k0)

noncomputable def t9_4090 (fu n : Nat) : ToldP := fun _ e s K => match e, s with
  | [.ptr 0 0, .ptr 1 0, .own 2, .int .i64 x, .int .i64 x1], [.obj [.int .i64 d, .map 3], .obj [.int .i64 r, .fz zq0 r1 false], .row zq1 x2, .map .str true zq2 y] => (match FT.sames zq0 ft5 with | true => (match FT.sames zq1 ft4 with | true => (match FT.sames zq2 ft0 with | true => F9_4090 fu x d x2 y n x1 (K (.exit 2) (unpackM (bitsM 7 0x60) [.ptr 0 0, .ptr 1 0]) [.obj [.int .i64 (d), .map 2], .obj [.int .i64 (r), .fz ft5 (r1) false], .map .str true ft0 (y)]) | false => none) | false => none) | false => none)
  | _, _ => none

noncomputable def pc9_4090 (fu : Nat) : Nat → Option ToldP := fun p => match Nat.beq p 2094286 with | true => some (ghP 0 [.live (bitsM 76 0xc00e000000000001060), .ownP 12 [] ft1, .ownP 61 [] ft4, .gc, .fzC 1 1 ft5, .gc] (pkP (bitsM 76 0xc00e000000000001060) (t9_2094286 fu fu))) | false => none
theorem e9_4090 (fu n : Nat) (R : Type) (K : VExit → UEnv → USt → Option R) (x : Int) (x1 : Int) (d : Int) (r : Int) (r1 : List (List D)) (x2 : List (List D)) (y : List (D × List D)) :
    F9_4090 fu x d x2 y (n + 1) x1 (K (.exit 2) (unpackM (bitsM 7 0x60) [.ptr 0 0, .ptr 1 0]) [.obj [.int .i64 (d), .map 2], .obj [.int .i64 (r), .fz ft5 (r1) false], .map .str true ft0 (y)]) = uexec Try.prog (tb8 fu) 300 (pc9_4090 fu) 8180 (loopBody (codeAt code9 4090)) (unpackM (bitsM 64 0xe000000000000060) [.ptr 0 0, .ptr 1 0, .own 2, .int .i64 x, .int .i64 x1]) [.obj [.int .i64 d, .map 3], .obj [.int .i64 r, .fz ft5 r1 false], .row ft4 x2, .map .str true ft0 y] (loopK 0 [.live (bitsM 64 0xe000000000000060), .ownP 61 [] ft4, .gc, .fzC 1 1 ft5, .gc] [.live (bitsM 7 0x70), .gc] (pkP (bitsM 64 0xe000000000000060) (t9_4090 fu n)) K) := by kernel_rfl

theorem p9_4090 (fu : Nat) : SoundPc Try.prog 0 code9 (pc9_4090 fu) := fun p told h b hb => by
  replace h : pc9_4090 fu p = some told := h
  unfold pc9_4090 at h
  split at h
  · rename_i hp
    cases h
    have := Nat.eq_of_beq_eq_true hp
    subst this
    rw [a9_2094286] at hb
    cases hb
    exact ghP_sound (s9_2094286 fu _)
  ·
    cases h

theorem s9_4090 (fu : Nat) : ∀ n, SoundP Try.prog 0 (.loop (loopBody (codeAt code9 4090))) (pkP (bitsM 64 0xe000000000000060) (t9_4090 fu n)) := by
  refine loopP_sound (gin := [.live (bitsM 64 0xe000000000000060), .ownP 61 [] ft4, .gc, .fzC 1 1 ft5, .gc]) (gout := [.live (bitsM 7 0x70), .gc]) (k := 300) (tb8_sound fu) (p9_4090 fu) (by decide) a9_4090 (fun R e s K => ?_) (fun n R e s K r h => ?_)
  · unfold t9_4090; repeat' split
    all_goals rfl
  · unfold t9_4090 at h; split at h
    case h_2 => cases h
    split at h
    case h_2 => cases h
    rename_i hq
    have hq := FT.sames_eq _ _ hq
    subst hq
    split at h
    case h_2 => cases h
    rename_i hq
    have hq := FT.sames_eq _ _ hq
    subst hq
    split at h
    case h_2 => cases h
    rename_i hq
    have hq := FT.sames_eq _ _ hq
    subst hq
    exact (e9_4090 fu n R K _ _ _ _ _ _ _).symm.trans h


noncomputable def Fb9 {R : Type} (fu : Nat) (l : List (List D)) (o_ : List D) (k0 : Bool → Option R) : Option R :=
  F21 fu l fun o_0 => bif !o_0 then F10 fu fun o_1 => (k0 o_1) else bif decide (600 < IntKind.i64.wrap (IntKind.i64.wrap (ofN (cell 3 o_).toRows.length + ofN (cell 1 o_).toStr.size) + ofN (cell 2 o_).toStr.size)) then F10 fu fun o_2 => (k0 o_2) else F11 fu 4000 fun o_3 => F22 fu 4000 fun o_4 => F9_250 fu l (ofN l.length) o_3 fu 0 (cell 0 o_4).toInt (cell 1 o_4).toRows [] fun o_5 o_6 o_7 => F26 fu o_3 o_7 (F24 fu [D.int (cell 0 o_).toInt, D.str (cell 1 o_).toStr, D.str (cell 2 o_).toStr, D.row (cell 3 o_).toRows, D.int (cell 4 o_).toInt, D.row (cell 5 o_).toRows] o_3 o_7 fun o_8 o_9 => bif keysOK o_7 then F9_4090 fu (ofN (keysD o_7).length) o_3 (keysD o_7) o_7 fu 0 (F25 fu [D.int o_5, D.row o_6] o_3 o_7 fun o_10 => bif o_10 then F10 fu fun o_11 => (k0 o_11) else (k0 false)) else none)

noncomputable def F9 {R : Type} (fu : Nat) (l : List (List D)) (o_ : List D) (k0 : Bool → Option R) : Option R := shut (@Fb9 R) fu l o_ k0
theorem F9_eq {R : Type} (fu : Nat) (l : List (List D)) (o_ : List D) (k0 : Bool → Option R) : F9 fu l o_ k0 = Fb9 fu l o_ k0 := by unfold F9; rw [shut_eq]

noncomputable def pc9 (fu : Nat) : Nat → Option ToldP := fun p => match Nat.beq p 250 with | true => some (ghP 0 [.live (bitsM 40 0xe000000068), .fzP 37 [] ft7, .gc, .fzC 0 3 ft1, .fzC 0 5 ft3, .fzC 2 1 ft5, .gc] (pkP (bitsM 40 0xe000000068) (t9_250 fu fu))) | false => match Nat.beq p 4090 with | true => some (ghP 0 [.live (bitsM 64 0xe000000000000060), .ownP 61 [] ft4, .gc, .fzC 1 1 ft5, .gc] (pkP (bitsM 64 0xe000000000000060) (t9_4090 fu fu))) | false => none
noncomputable def t9 (fu : Nat) : ToldF := fun _ args s K => match args, s with
  | [.fz zq0 l false, .agg [.int .i64 q, .str q1, .str q2, .fz zq1 q3 false, .int .i64 q4, .fz zq2 q5 false]], [] => (match FT.sames zq0 ft7 with | true => (match FT.sames zq1 ft1 with | true => (match FT.sames zq2 ft3 with | true => F9 fu l [D.int q, D.str q1, D.str q2, D.row q3, D.int q4, D.row q5] (fun o_ => K (.bool o_) []) | false => none) | false => none) | false => none)
  | _, _ => none

theorem e9 (R : Type) (K : UV → USt → Option R) (fu : Nat) (l : List (List D)) (q : Int) (q1 : ByteArray) (q2 : ByteArray) (q3 : List (List D)) (q4 : Int) (q5 : List (List D)) :
    F9 fu l [D.int q, D.str q1, D.str q2, D.row q3, D.int q4, D.row q5] (fun o_ => K (.bool o_) []) = ufun Try.prog ⟨(tb8 fu), pc9 fu⟩ 300 9 [.fz ft7 l false, .agg [.int .i64 q, .str q1, .str q2, .fz ft1 q3 false, .int .i64 q4, .fz ft3 q5 false]] [] (funK 0 [.gc] K) := (F9_eq fu _ _ _).trans (by kernel_rfl)

theorem s9 (fu : Nat) : Tells Try.prog 9 (t9 fu) := by
  refine ufun_sound (T := ⟨(tb8 fu), pc9 fu⟩) (m := 0) (gout := [.gc]) (k := 300) (tb8_sound fu) (fun fn body hf hb => ?_) (fun R args s K r h => ?_) (fun R args s K r h => ?_)
  · have hc : body = code9 := by
      have h1 : Try.prog.funcs[9]? = some Try.f9 := rfl
      rw [h1] at hf; cases hf
      have h2 : Try.f9.body = some code9 := rfl
      rw [h2] at hb; cases hb; rfl
    subst hc
    exact fun p told h b hb => by
      replace h : pc9 fu p = some told := h
      unfold pc9 at h
      split at h
      · rename_i hp
        cases h
        have := Nat.eq_of_beq_eq_true hp
        subst this
        rw [a9_250] at hb
        cases hb
        exact ghP_sound (s9_250 fu _)
      ·
        split at h
        · rename_i hp
          cases h
          have := Nat.eq_of_beq_eq_true hp
          subst this
          rw [a9_4090] at hb
          cases hb
          exact ghP_sound (s9_4090 fu _)
        ·
          cases h

  · unfold t9 at h; split at h
    · rfl
    · cases h
  · unfold t9 at h; split at h
    case h_2 => cases h
    split at h
    case h_2 => cases h
    rename_i hq
    have hq := FT.sames_eq _ _ hq
    subst hq
    split at h
    case h_2 => cases h
    rename_i hq
    have hq := FT.sames_eq _ _ hq
    subst hq
    split at h
    case h_2 => cases h
    rename_i hq
    have hq := FT.sames_eq _ _ hq
    subst hq
    exact (e9 R K fu _ _ _ _ _ _ _).symm.trans h

noncomputable def tb9 (fu : Nat) : FuncId → Option (Bool × ToldF) := fun f => match Nat.beq f 9 with
  | true => some (false, ghG [.fzP 0 [] ft7, .fzP 1 [3] ft1, .fzP 1 [5] ft3] (t9 fu))
  | false => (tb8 fu) f
theorem tb9_sound (fu : Nat) : SoundF' Try.prog (tb9 fu) := by
  intro f own told h
  unfold tb9 at h
  split at h
  · rename_i hb
    cases h
    have := Nat.eq_of_beq_eq_true hb
    subst this
    exact ghG_sound (s9 fu)
  · exact (tb8_sound fu) f own told h

end Go.Proofs.Ytpaecfhgahheaaa.V

/- disk: what a call does to a row of files; the document's functions do it. -/
namespace Go.Proofs.Ytpaecfhgahheaaa.V
variable {R : Type}

theorem fits_big {n b : Nat} (hn : n ≤ 3000000) (hb : b ≤ 1000) : fits n b = true := by
  unfold fits maxBytes
  have : n * b ≤ 3000000 * 1000 := Nat.mul_le_mul hn hb
  exact decide_eq_true ⟨by omega, by omega⟩

def okName (n : ByteArray) : Bool := decide (1 ≤ n.size) && decide (n.size ≤ 32) && !hasByte n.data.toList 10
def fileOf (n : ByteArray) (fl : List Fi) : Fi := match lk n fl with | some f => f | none => ⟨n, [], 0⟩
def aApp (room : Nat) (n : ByteArray) (b : List (List D)) (fl : List Fi) : Int × List Fi :=
  bif okName n then (if room < tot fl + b.length then (5, fl) else (0, put ⟨n, (fileOf n fl).b ++ b, (fileOf n fl).s⟩ fl)) else (1, fl)
def aSync (n : ByteArray) (fl : List Fi) : Int × List Fi := match lk n fl with
  | none => (6, fl)
  | some f => (0, put ⟨n, f.b, f.b.length⟩ fl)
def aCut (n : ByteArray) (k : Int) (fl : List Fi) : Int × List Fi := match lk n fl with
  | none => (6, fl)
  | some f => if k < 0 ∨ (f.b.length : Int) < k then (1, fl) else (0, put ⟨n, f.b.take k.toNat, k.toNat⟩ fl)
def aRem (n : ByteArray) (fl : List Fi) : Int × List Fi := match lk n fl with
  | none => (6, fl)
  | some _ => (0, del n fl)
def aRen (n t : ByteArray) (fl : List Fi) : Int × List Fi := match lk n fl with
  | none => (6, fl)
  | some f => bif okName t then (if n = t then (0, fl) else (0, put ⟨t, f.b, f.b.length⟩ (del n fl))) else (1, fl)
def crN (keep : List (List D)) (i : Nat) (f : Fi) : Nat :=
  if i < keep.length ∧ 0 < (cell 0 (elem i keep)).toInt then f.s + (cell 0 (elem i keep)).toInt.toNat % (f.b.length - f.s + 1) else f.s
def crF (keep : List (List D)) (i : Nat) (f : Fi) : Fi := ⟨f.n, f.b.take (crN keep i f), crN keep i f⟩
def crA (keep : List (List D)) : Nat → List Fi → List Fi
  | _, [] => []
  | i, f :: r => crF keep i f :: crA keep (i + 1) r
def aDo (room : Nat) (o : List D) (fl : List Fi) : Int × List Fi :=
  if (cell 0 o).toInt = 5 then (0, crA (cell 5 o).toRows 0 fl)
  else if (cell 0 o).toInt = 0 then aApp room (cell 1 o).toStr (cell 3 o).toRows fl
  else if (cell 0 o).toInt = 1 then aSync (cell 1 o).toStr fl
  else if (cell 0 o).toInt = 2 then aCut (cell 1 o).toStr (cell 4 o).toInt fl
  else if (cell 0 o).toInt = 3 then aRem (cell 1 o).toStr fl
  else aRen (cell 1 o).toStr (cell 2 o).toStr fl

/-- The document's row. -/
def rows (fl : List Fi) : List (List D) := fl.map Fi.row
abbrev ref (room : Nat) (fl : List Fi) : List D := [D.int room, D.row (rows fl)]

theorem rows_len (fl : List Fi) : (rows fl).length = fl.length := by simp [rows]
theorem elem_mid (p r : List Fi) (x : Fi) : elem p.length (rows (p ++ x :: r)) = x.row := by
  unfold elem rows
  rw [List.getD_eq_getElem?_getD, List.getElem?_map, List.getElem?_append_right (Nat.le_refl _), Nat.sub_self]; rfl
theorem elem_row {fl : List Fi} {i : Nat} (h : i < fl.length) : elem i (rows fl) = (fl[i]).row := by
  unfold elem rows
  rw [List.getD_eq_getElem?_getD, List.getElem?_map, List.getElem?_eq_getElem h]; rfl
theorem row0 (f : Fi) : (cell 0 f.row).toStr = f.n := of_eq_true (eq_self _)
theorem row1 (f : Fi) : (cell 1 f.row).toRows = f.b := of_eq_true (eq_self _)
theorem row2 (f : Fi) : (cell 2 f.row).toInt = f.s := of_eq_true (eq_self _)
theorem ref0 (a : Int) (b : List (List D)) : (cell 0 [D.int a, D.row b]).toInt = a := of_eq_true (eq_self _)
theorem ref1 (a : Int) (b : List (List D)) : (cell 1 [D.int a, D.row b]).toRows = b := of_eq_true (eq_self _)
theorem rows_append (a b : List Fi) : rows (a ++ b) = rows a ++ rows b := by simp [rows]
theorem row_eq (f : Fi) : [D.str f.n, D.row f.b, D.int f.s] = f.row := rfl
theorem natlt {a b : Nat} (h : a < b) : decide ((a : Int) < ofN b) = true := decide_eq_true (by unfold ofN; omega)
theorem natge {a b : Nat} (h : b ≤ a) : decide ((a : Int) < ofN b) = false := decide_eq_false (by unfold ofN; omega)

theorem tot_append (a b : List Fi) : tot (a ++ b) = tot a + tot b := by simp [tot]

theorem used_loop (fu : Nat) (k : Int → Option R) : ∀ (r p : List Fi) (n : Nat), r.length < n → (p ++ r).length ≤ 1000 → tot (p ++ r) ≤ 2000000 →
    F36_58 fu (rows (p ++ r)) n (tot p) p.length k = k (tot (p ++ r))
  | [], p, n + 1, _, _, _ => by
    rw [F36_58, natge (by simp [rows_len]), List.append_nil]; rfl
  | x :: r, p, n + 1, hn, hl, ht => by
    have h1 : p.length < (p ++ x :: r).length := by simp
    have h2 : tot p + x.b.length ≤ 2000000 := by rw [tot_append, tot_cons] at ht; omega
    rw [F36_58, natlt (by rw [rows_len]; exact h1), cond_true, within_of (by rw [rows_len]; exact h1), cond_true, Int.toNat_natCast, elem_mid, row1, wrap_of (by unfold ofN; omega) (by unfold ofN; omega), wrap_succ (by omega)]
    have := used_loop fu k r (p ++ [x]) n (by simp at hn; omega) (by simpa using hl) (by simpa using ht)
    rw [List.append_assoc, List.length_append, tot_append] at this
    exact this

theorem used_ok {fu room : Nat} {fl : List Fi} (hf : 200 ≤ fu) (g : Good fl) (k : Int → Option R) : F36 fu (ref room fl) k = k (tot fl) := by
  rw [F36_eq, Fb36]
  have := g.ln; have := g.to
  exact used_loop fu k fl [] fu (by omega) (by simp; omega) (by simp; omega)

theorem at_loop (fu : Nat) (nm : ByteArray) : ∀ (r p : List Fi) (n : Nat), r.length < n → (p ++ r).length ≤ 1000 →
    (lk nm r = none ∧ ∀ (k : Int → Option R) (k1 : Option R), F34_26 fu nm (rows (p ++ r)) n p.length k k1 = k1) ∨ ∃ i f, i < (p ++ r).length ∧ lk nm r = some f ∧ elem i (rows (p ++ r)) = f.row ∧ ∀ (k : Int → Option R) (k1 : Option R), F34_26 fu nm (rows (p ++ r)) n p.length k k1 = k (i : Nat)
  | [], p, n + 1, _, _ => by
    refine .inl ⟨rfl, fun k k1 => ?_⟩
    rw [F34_26, natge (by simp [rows_len])]; rfl
  | x :: r, p, n + 1, hn, hl => by
    have h1 : p.length < (p ++ x :: r).length := by simp
    have hs : ∀ (k : Int → Option R) (k1 : Option R), F34_26 fu nm (rows (p ++ x :: r)) (n + 1) p.length k k1 = bif decide (x.n = nm) then k p.length else F34_26 fu nm (rows (p ++ x :: r)) n ((p.length + 1 : Nat) : Int) k k1 := by
      intro k k1
      rw [F34_26, natlt (by rw [rows_len]; exact h1), cond_true, within_of (by rw [rows_len]; exact h1), cond_true, Int.toNat_natCast, elem_mid, row0, strEq_dec, wrap_succ (by omega)]
    unfold lk
    by_cases e : x.n = nm
    · rw [if_pos e]
      exact .inr ⟨p.length, x, h1, rfl, elem_mid .., fun k k1 => by rw [hs, decide_eq_true e]; rfl⟩
    · rw [if_neg e]
      have := at_loop fu nm r (p ++ [x]) n (by simp at hn; omega) (by simpa using hl)
      rw [List.append_assoc, List.length_append] at this
      rcases this with ⟨h, h2⟩ | ⟨i, f, q1, q2, q3, q4⟩
      · exact .inl ⟨h, fun k k1 => by rw [hs, decide_eq_false e]; exact h2 k k1⟩
      · exact .inr ⟨i, f, q1, q2, q3, fun k k1 => by rw [hs, decide_eq_false e]; exact q4 k k1⟩

theorem at_ok {fu room : Nat} {fl : List Fi} (hf : 200 ≤ fu) (g : Good fl) (nm : ByteArray) :
    (lk nm fl = none ∧ ∀ k : Int → Option R, F34 fu (ref room fl) nm k = k (-1)) ∨ ∃ i f, i < fl.length ∧ lk nm fl = some f ∧ elem i (rows fl) = f.row ∧ ∀ k : Int → Option R, F34 fu (ref room fl) nm k = k (i : Nat) := by
  have := g.ln
  rcases at_loop (R := R) fu nm fl [] fu (by omega) (by simp; omega) with ⟨h, h2⟩ | ⟨i, f, q1, q2, q3, q4⟩
  · exact .inl ⟨h, fun k => by rw [F34_eq, Fb34]; exact h2 k (k (-1))⟩
  · exact .inr ⟨i, f, q1, q2, q3, fun k => by rw [F34_eq, Fb34]; exact q4 k (k (-1))⟩

theorem without_loop (fu : Nat) (nm : ByteArray) (k : List (List D) → Option R) : ∀ (r p q : List Fi) (n : Nat), r.length < n → (p ++ r).length ≤ 1000 → q.length ≤ p.length →
    F38_58 fu nm (rows (p ++ r)) n p.length (rows q) k = k (rows (q ++ del nm r))
  | [], p, q, n + 1, _, _, _ => by
    rw [F38_58, natge (by simp [rows_len])]; simp [del]
  | x :: r, p, q, n + 1, hn, hl, hq => by
    have h1 : p.length < (p ++ x :: r).length := by simp
    have h2 : p.length ≤ 1000 := by simp at hl; omega
    have w : within (p.length : Int) (rows (p ++ x :: r)).length = true := within_of (by rw [rows_len]; exact h1)
    rw [F38_58, natlt (by rw [rows_len]; exact h1), cond_true, w, cond_true, Int.toNat_natCast, elem_mid, row0, row1, row2, strEq_dec, wrap_succ (by omega), fits_of (by rw [rows_len]; omega) (by omega)]
    unfold del
    by_cases e : x.n = nm
    · rw [decide_eq_true e, if_pos e]
      have := without_loop fu nm k r (p ++ [x]) q n (by simp at hn; omega) (by simpa using hl) (by simp; omega)
      rw [List.append_assoc, List.length_append] at this
      exact this
    · rw [decide_eq_false e, if_neg e]
      have := without_loop fu nm k r (p ++ [x]) (q ++ [x]) n (by simp at hn; omega) (by simpa using hl) (by simp; omega)
      rw [List.append_assoc, List.append_assoc, List.length_append, rows_append q] at this
      exact this

theorem without_ok {fu room : Nat} {fl : List Fi} (hf : 200 ≤ fu) (hl : fl.length ≤ 100) (nm : ByteArray) (k : List D → Option R) : F38 fu (ref room fl) nm k = k (ref room (del nm fl)) := by
  rw [F38_eq, Fb38]
  exact without_loop fu nm (fun o => k [D.int room, D.row o]) fl [] [] fu (by omega) (by simp; omega) (by simp)

theorem with_done (fu : Nat) (f : Fi) (k : Bool → List (List D) → Option R) : ∀ (r p q : List Fi) (n : Nat), r.length < n → (p ++ r).length ≤ 1000 → q.length ≤ p.length + 1 →
    F37_250 fu (rows (p ++ r)) f.n f.b f.s n true p.length (rows q) k = k true (rows (q ++ r))
  | [], p, q, n + 1, _, _, _ => by
    rw [F37_250, natge (by simp [rows_len]), cond_false, List.append_nil q]
  | x :: r, p, q, n + 1, hn, hl, hq => by
    have h1 : p.length < (p ++ x :: r).length := by simp
    have h2 : p.length ≤ 1000 := by simp at hl; omega
    have w : within (p.length : Int) (rows (p ++ x :: r)).length = true := within_of (by rw [rows_len]; exact h1)
    rw [F37_250, natlt (by rw [rows_len]; exact h1), cond_true, Bool.not_true, cond_false, w, cond_true, Int.toNat_natCast, elem_mid, row0, row1, row2, wrap_succ (by omega), fits_of (by rw [rows_len]; omega) (by omega), cond_true]
    have := with_done fu f k r (p ++ [x]) (q ++ [x]) n (by simp at hn; omega) (by simpa using hl) (by simp; omega)
    rw [List.append_assoc, List.append_assoc, List.length_append, rows_append q] at this
    exact this

theorem with_loop (fu : Nat) (f : Fi) (k : Bool → List (List D) → Option R) : ∀ (r p q : List Fi) (n : Nat), r.length < n → (p ++ r).length ≤ 1000 → q.length ≤ p.length →
    (F37_250 fu (rows (p ++ r)) f.n f.b f.s n false p.length (rows q) k = k true (rows (q ++ ins f r))) ∨ (F37_250 fu (rows (p ++ r)) f.n f.b f.s n false p.length (rows q) k = k false (rows (q ++ r)) ∧ ins f r = r ++ [f])
  | [], p, q, n + 1, _, _, _ => by
    rw [F37_250, natge (by simp [rows_len]), cond_false, List.append_nil q]; exact .inr ⟨rfl, rfl⟩
  | x :: r, p, q, n + 1, hn, hl, hq => by
    have h1 : p.length < (p ++ x :: r).length := by simp
    have h2 : p.length ≤ 1000 := by simp at hl; omega
    have w : within (p.length : Int) (rows (p ++ x :: r)).length = true := within_of (by rw [rows_len]; exact h1)
    rw [F37_250, natlt (by rw [rows_len]; exact h1), cond_true, Bool.not_false, cond_true, w, cond_true, Int.toNat_natCast, elem_mid, row0, row1, row2, strEq_dec, strLt_iff, wrap_succ (by omega), fits_of (by rw [rows_len]; omega) (by omega), cond_true, cond_true, cond_true]
    unfold ins
    have e : (!(decide (x.n.data.toList < f.n.data.toList) || decide (x.n = f.n))) = decide (f.n.data.toList < x.n.data.toList) := by
      by_cases e1 : f.n.data.toList < x.n.data.toList
      · rw [decide_eq_true e1, decide_eq_false (List.lt_asymm e1), decide_eq_false (fun e => by rw [e] at e1; exact List.lt_irrefl _ e1)]; rfl
      · rw [decide_eq_false e1]
        by_cases e2 : x.n = f.n
        · rw [decide_eq_true e2, Bool.or_true]; rfl
        · by_cases e3 : x.n.data.toList < f.n.data.toList
          · rw [decide_eq_true e3]; rfl
          · exact absurd (dat_inj (List.le_antisymm (List.not_lt.1 e1) (List.not_lt.1 e3))) e2
    rw [e]
    by_cases e1 : f.n.data.toList < x.n.data.toList
    · rw [decide_eq_true e1, if_pos e1, cond_true, fits_of (by simp [rows_len]; omega) (by omega), cond_true]
      refine .inl ?_
      have := with_done fu f k r (p ++ [x]) (q ++ [f] ++ [x]) n (by simp at hn; omega) (by simpa using hl) (by simp; omega)
      rw [List.append_assoc p [x] r, List.length_append, rows_append (q ++ [f]), rows_append q] at this
      refine this.trans ?_
      simp
    · rw [decide_eq_false e1, if_neg e1, cond_false]
      have := with_loop fu f k r (p ++ [x]) (q ++ [x]) n (by simp at hn; omega) (by simpa using hl) (by simp; omega)
      rw [List.append_assoc p [x] r, List.append_assoc q, List.append_assoc q, List.length_append, rows_append q [x]] at this
      rcases this with h | ⟨h, h2⟩
      · exact .inl h
      · exact .inr ⟨h, by rw [h2]; rfl⟩

theorem with_ok {fu room : Nat} {fl : List Fi} (hf : 200 ≤ fu) (hl : fl.length ≤ 100) (f : Fi) (k : List D → Option R) : F37 fu (ref room fl) f.row k = k (ref room (put f fl)) := by
  rw [F37_eq, Fb37]
  simp only [ref0, ref1, row0, row1, row2]
  rw [without_ok hf hl]
  simp only [ref0, ref1]
  have hd := (del_tot (n := f.n) fl).2
  have := with_loop fu f (fun o_1 o_2 => bif !o_1 then bif fits (o_2.length + 1) 48 then (k ([D.int room, D.row (o_2 ++ [[D.str f.n, D.row f.b, D.int f.s]])])) else none else (k [D.int room, D.row o_2])) (del f.n fl) [] [] fu (by omega) (by simp; omega) (by simp)
  rcases this with h | ⟨h, h2⟩
  · exact h
  · refine h.trans ?_
    simp only [Bool.not_false, cond_true, List.nil_append, rows_len]
    rw [fits_of (by omega) (by omega), cond_true]
    unfold put
    rw [h2]
    show _ = k [D.int room, D.row (rows (del f.n fl ++ [f]))]
    rw [rows_append]
    rfl

theorem crN_le {keep : List (List D)} {i : Nat} {f : Fi} (h : f.s ≤ f.b.length) : crN keep i f ≤ f.b.length := by
  unfold crN
  split
  · have := Nat.mod_lt (cell 0 (elem i keep)).toInt.toNat (show f.b.length - f.s + 1 > 0 by omega); omega
  · exact h

theorem part_take (l : List (List D)) (n : Nat) : part l 0 n = l.take n := by simp [part]

/-- What a crash keeps, as both tell it. -/
theorem keep_num {x : Int} {a s : Nat} (h : s ≤ a) (ha : a ≤ 2000000) (hx : 0 < x) :
    decide (IntKind.i64.wrap (IntKind.i64.wrap (ofN a - (s : Int)) + 1) = 0) = false ∧ IntKind.i64.wrap ((s : Int) + x.tmod (IntKind.i64.wrap (IntKind.i64.wrap (ofN a - (s : Int)) + 1))) = ((s + x.toNat % (a - s + 1) : Nat) : Int) := by
  have e : IntKind.i64.wrap (IntKind.i64.wrap (ofN a - (s : Int)) + 1) = ((a - s + 1 : Nat) : Int) := by
    unfold ofN
    rw [wrap_of (x := (a : Int) - s) (by omega) (by omega), wrap_of (by omega) (by omega)]; omega
  rw [e]
  refine ⟨eq_false (by omega), ?_⟩
  obtain ⟨m, rfl⟩ : ∃ m : Nat, x = (m : Int) := ⟨x.toNat, by omega⟩
  have hm := Nat.mod_lt m (show a - s + 1 > 0 by omega)
  rw [Int.toNat_natCast, show Int.tmod (m : Int) ((a - s + 1 : Nat) : Int) = ((m % (a - s + 1) : Nat) : Int) from (Int.ofNat_tmod m (a - s + 1)).symm, wrap_of (by omega) (by omega)]
  omega

theorem upTo_nat {n m : Nat} (h : n ≤ m) : upTo (n : Int) m = true := by unfold upTo; exact decide_eq_true ⟨by omega, by omega⟩
theorem ge0_nat (n : Nat) : decide ((0 : Int) ≤ 0 ∧ 0 ≤ (n : Int)) = true := decide_eq_true ⟨by omega, by omega⟩

theorem crash_loop (fu : Nat) (keep : List (List D)) (k : List (List D) → Option R) : ∀ (r p q : List Fi) (n : Nat), r.length < n → (p ++ r).length ≤ 1000 → q.length ≤ p.length → (∀ f ∈ r, f.s ≤ f.b.length ∧ f.b.length ≤ 2000000) →
    F33_58 fu keep (rows (p ++ r)) n p.length (rows q) k = k (rows (q ++ crA keep p.length r))
  | [], p, q, n + 1, _, _, _, _ => by
    rw [F33_58, natge (by simp [rows_len])]; simp [crA]
  | x :: r, p, q, n + 1, hn, hl, hq, hs => by
    have h1 : p.length < (p ++ x :: r).length := by simp
    have h2 : p.length ≤ 1000 := by simp at hl; omega
    obtain ⟨hx, hx2⟩ := hs x (List.mem_cons_self ..)
    have w : within (p.length : Int) (rows (p ++ x :: r)).length = true := within_of (by rw [rows_len]; exact h1)
    have := crash_loop fu keep k r (p ++ [x]) (q ++ [crF keep p.length x]) n (by simp at hn; omega) (by simpa using hl) (by simp; omega) (fun f hf => hs f (List.mem_cons_of_mem _ hf))
    rw [List.append_assoc, List.append_assoc, List.length_append, rows_append q] at this
    have hc := crN_le (keep := keep) (i := p.length) hx
    have w2 : fits ((rows q).length + 1) 48 = true := fits_of (by rw [rows_len]; omega) (by omega)
    rw [F33_58, natlt (by rw [rows_len]; exact h1), cond_true, w, cond_true, Int.toNat_natCast, elem_mid, row0, row1, row2, wrap_succ (by omega), w2]
    by_cases c1 : p.length < keep.length
    · rw [natlt c1, cond_true, within_of c1, cond_true]
      by_cases c2 : 0 < (cell 0 (elem p.length keep)).toInt
      · obtain ⟨e1, e2⟩ := keep_num hx hx2 c2
        have e3 : crN keep p.length x = x.s + (cell 0 (elem p.length keep)).toInt.toNat % (x.b.length - x.s + 1) := by unfold crN; rw [if_pos ⟨c1, c2⟩]
        rw [lt_true c2, cond_true, cond_true, e1, cond_false, e2, ← e3, ge0_nat, upTo_nat hc, Bool.and_self, cond_true, Int.toNat_natCast, part_take, fits_big (by simp; omega) (by omega), cond_true, cond_true]
        exact this
      · have e3 : crN keep p.length x = x.s := by unfold crN; rw [if_neg (fun h => c2 h.2)]
        rw [lt_false c2, cond_false, ge0_nat, upTo_nat hx, Bool.and_self, cond_true, Int.toNat_natCast, part_take, fits_big (by simp; omega) (by omega), cond_true, cond_true]
        unfold crF at this
        rw [e3] at this
        unfold crA crF
        rw [e3]
        exact this
    · have e3 : crN keep p.length x = x.s := by unfold crN; rw [if_neg (fun h => c1 h.1)]
      rw [natge (by omega), cond_false, ge0_nat, upTo_nat hx, Bool.and_self, cond_true, Int.toNat_natCast, part_take, fits_big (by simp; omega) (by omega), cond_true, cond_true]
      unfold crF at this
      rw [e3] at this
      unfold crA crF
      rw [e3]
      exact this

theorem mem_tot {fl : List Fi} {f : Fi} (h : f ∈ fl) : f.b.length ≤ tot fl := by
  induction fl with
  | nil => cases h
  | cons x r ih =>
    rw [tot_cons]
    rcases List.mem_cons.1 h with rfl | h
    · omega
    · have := ih h; omega

theorem crash_ok {fu room : Nat} {fl : List Fi} (hf : 200 ≤ fu) (g : Good fl) (keep : List (List D)) (k : List D → Option R) : F33 fu (ref room fl) keep k = k (ref room (crA keep 0 fl)) := by
  rw [F33_eq, Fb33]
  have := g.ln; have := g.to
  exact crash_loop fu keep (fun o => k [D.int room, D.row o]) fl [] [] fu (by omega) (by simp; omega) (by simp) (fun f hm => ⟨g.sy f hm, by have := mem_tot hm; omega⟩)

end Go.Proofs.Ytpaecfhgahheaaa.V

