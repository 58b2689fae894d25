/- WHAT IS PROVED: the call of EntryCopies answers true, and leaves its arguments as they were, at every input that the given row takes. No condition of its own. -/
import Derived.Test.YtkefbcnibffekaaBase4
import Derived.Test.YtkefbcnibffekaaChecked
import Derived.ProofKit
import Derived.KernelRfl
import Derived.Test.YtkefbcnibffekaaRows
set_option linter.unusedVariables false
set_option linter.unusedSimpArgs false

/- What all joins use. -/
namespace Go.Proofs.Ytkefbcnibffekaa
theorem Try.own : ownKnob Try.prog.godebug = none := by kernel_rfl
theorem Try.laidOut : laidOutB Try.prog = true := by kernel_rfl
end Go.Proofs.Ytkefbcnibffekaa

/- Where V's law of function 3 stands, the given row stands. -/
namespace Go.Proofs.Ytkefbcnibffekaa
open Go.ChangeShapes Go.WideShapes Go.ChangeAt Go.RowKit

set_option maxRecDepth 100000 in
theorem copies_lifted (law : V.Law Try.prog 3 Try.f3.params.toList) (os : Os) (started : os.Started) (H : Type) (enc : TypeId × Value → H) :
    ReturnsInHanded {} Try.checked os 3 .any (Rows.entryCopiesSpec.pre6 enc Try.prog Try.f3 Rows.entryCopiesRow.domain false) (Rows.entryCopiesSpec.post enc Try.prog Try.f3 false true false false) := by
  refine V.lift (C := Try.checked) enc Try.own started (by kernel_rfl) Try.func3
    (ChangeSpec.witness6 (enc := enc) (C := Try.checked) false ⟨#[], #[.slice none 0 0, .slice none 0 0], []⟩ 8 (by kernel_rfl) (by kernel_rfl) (by kernel_rfl) (by kernel_rfl)) rfl (fun ds h => ?_) rfl (by kernel_rfl) Try.laidOut (by kernel_rfl) law
  have h : ds.length = 2 := h
  match ds, h with
  | [d1, d2], _ => rfl

theorem copies_join (law : V.Law Try.prog 3 Try.f3.params.toList) : Rows.EntryCopiesSaid :=
  OpenClaim.holds_of_wide 3 Try.f3 rfl rfl rfl rfl rfl rfl rfl ⟨rfl, rfl, rfl, rfl, rfl⟩ rfl rfl rfl rfl rfl (by kernel_rfl) Try.func3 (by kernel_rfl)
    (of_decide_eq_true (by kernel_rfl)) (by unfold Func.isWrapper; first | (rw [if_pos (by decide +kernel)]; kernel_rfl) | (rw [if_neg (by decide +kernel)]; exact ⟨rfl, rfl⟩))
    (fun os started H enc _ => copies_lifted law os started H enc)

end Go.Proofs.Ytkefbcnibffekaa

/- Printed by ugen: slices.Clone[[]daisychain/entry.Entry,daisychain/entry.Entry] -/
namespace Go.Proofs.Ytkefbcnibffekaa.V
set_option maxRecDepth 100000
set_option maxHeartbeats 4000000

abbrev ft0 : List FT := [FT.int IntKind.i64, FT.str]

noncomputable def code23 : Code := match Try.f23.body with | some c => c | none => .skip

theorem s23 (fu : Nat) : Tells Try.prog 23 (toldClone ft0 24) :=
  clone_tells (F := (fun _ => none)) (k := 300) (fun _ _ _ h => by cases h) (fun R K => by kernel_rfl) (fun R K es => by kernel_rfl)

noncomputable def tb23 (fu : Nat) : FuncId → Option (Bool × ToldF) := fun f => match Nat.beq f 23 with
  | true => some (false, ghG [.fzP 0 [] ft0] (toldClone ft0 24))
  | false => (fun _ => none) f
theorem tb23_sound (fu : Nat) : SoundF' Try.prog (tb23 fu) := by
  intro f own told h
  unfold tb23 at h
  split at h
  · rename_i hb
    cases h
    have := Nat.eq_of_beq_eq_true hb
    subst this
    exact ghG_sound (s23 fu)
  · exact (fun _ _ _ h => by cases h) f own told h

end Go.Proofs.Ytkefbcnibffekaa.V

/- Printed by ugen: daisychain/entry.New -/
namespace Go.Proofs.Ytkefbcnibffekaa.V
set_option maxRecDepth 100000
set_option maxHeartbeats 4000000


noncomputable def code6 : Code := match Try.f6.body with | some c => c | none => .skip

noncomputable def F6 {R : Type} (fu : Nat) (base : Int) (term : Int) (k0 : Int → Int → Option R) : Option R :=
  (k0 (if 0 > base then 0 else base) (if 0 > term then 0 else term))

noncomputable def pc6 (fu : Nat) : Nat → Option ToldP := fun _ => none
noncomputable def t6 (fu : Nat) : ToldF := fun _ args s K => match args, s with
  | [.int .i64 base, .int .i64 term], [] => F6 fu base term (fun o_ o_1 => K (.ptr 0 0) [.obj [.int .i64 o_, .int .i64 o_1, .fz ft0 ([]) false]])
  | _, _ => none

theorem e6 (R : Type) (K : UV → USt → Option R) (fu : Nat) (base : Int) (term : Int) :
    F6 fu base term (fun o_ o_1 => K (.ptr 0 0) [.obj [.int .i64 o_, .int .i64 o_1, .fz ft0 ([]) false]]) = ufun Try.prog ⟨(tb23 fu), pc6 fu⟩ 300 6 [.int .i64 base, .int .i64 term] [] (funK 0 [.gc, .fzC 0 2 ft0, .gc] K) := by kernel_rfl

theorem s6 (fu : Nat) : Tells Try.prog 6 (t6 fu) := by
  refine ufun_sound (T := ⟨(tb23 fu), pc6 fu⟩) (m := 0) (gout := [.gc, .fzC 0 2 ft0, .gc]) (k := 300) (tb23_sound fu) (fun fn body hf hb => ?_) (fun R args s K r h => ?_) (fun R args s K r h => ?_)
  · have hc : body = code6 := by
      have h1 : Try.prog.funcs[6]? = some Try.f6 := rfl
      rw [h1] at hf; cases hf
      have h2 : Try.f6.body = some code6 := rfl
      rw [h2] at hb; cases hb; rfl
    subst hc
    exact SoundPc.none _ _ _
  · unfold t6 at h; split at h
    · rfl
    · cases h
  · unfold t6 at h; split at h
    case h_2 => cases h
    exact (e6 R K fu _ _).symm.trans h

noncomputable def tb6 (fu : Nat) : FuncId → Option (Bool × ToldF) := fun f => match Nat.beq f 6 with
  | true => some (false, ghG [] (t6 fu))
  | false => (tb23 fu) f
theorem tb6_sound (fu : Nat) : SoundF' Try.prog (tb6 fu) := by
  intro f own told h
  unfold tb6 at h
  split at h
  · rename_i hb
    cases h
    have := Nat.eq_of_beq_eq_true hb
    subst this
    exact ghG_sound (s6 fu)
  · exact (tb23_sound fu) f own told h

end Go.Proofs.Ytkefbcnibffekaa.V

/- Printed by ugen: daisychain/daisychainref11.New -/
namespace Go.Proofs.Ytkefbcnibffekaa.V
set_option maxRecDepth 100000
set_option maxHeartbeats 4000000

abbrev ft1 : List FT := [FT.int IntKind.i64, FT.int IntKind.i64, FT.row 24 [FT.int IntKind.i64, FT.str]]

noncomputable def code7 : Code := match Try.f7.body with | some c => c | none => .skip

noncomputable def F7 {R : Type} (fu : Nat) (base : Int) (term : Int) (k0 : (List D) → Option R) : Option R :=
  bif decide (base < 0) then bif decide (term < 0) then (k0 ([D.int 0, D.int 0, D.row ([])])) else (k0 ([D.int 0, D.int term, D.row ([])])) else bif decide (term < 0) then (k0 ([D.int base, D.int 0, D.row ([])])) else (k0 ([D.int base, D.int term, D.row ([])]))

noncomputable def pc7 (fu : Nat) : Nat → Option ToldP := fun _ => none
noncomputable def t7 (fu : Nat) : ToldF := fun _ args s K => match args, s with
  | [.int .i64 base, .int .i64 term], [] => F7 fu base term (fun o_ => K (.agg (ofDs 0 ft1 o_)) [])
  | _, _ => none

theorem e7 (R : Type) (K : UV → USt → Option R) (fu : Nat) (base : Int) (term : Int) :
    F7 fu base term (fun o_ => K (.agg (ofDs 0 ft1 o_)) []) = ufun Try.prog ⟨(tb6 fu), pc7 fu⟩ 300 7 [.int .i64 base, .int .i64 term] [] (funK 0 [.fzP 0 [2] ft0, .gc] K) := by kernel_rfl

theorem s7 (fu : Nat) : Tells Try.prog 7 (t7 fu) := by
  refine ufun_sound (T := ⟨(tb6 fu), pc7 fu⟩) (m := 0) (gout := [.fzP 0 [2] ft0, .gc]) (k := 300) (tb6_sound fu) (fun fn body hf hb => ?_) (fun R args s K r h => ?_) (fun R args s K r h => ?_)
  · have hc : body = code7 := by
      have h1 : Try.prog.funcs[7]? = some Try.f7 := rfl
      rw [h1] at hf; cases hf
      have h2 : Try.f7.body = some code7 := rfl
      rw [h2] at hb; cases hb; rfl
    subst hc
    exact SoundPc.none _ _ _
  · unfold t7 at h; split at h
    · rfl
    · cases h
  · unfold t7 at h; split at h
    case h_2 => cases h
    exact (e7 R K fu _ _).symm.trans h

noncomputable def tb7 (fu : Nat) : FuncId → Option (Bool × ToldF) := fun f => match Nat.beq f 7 with
  | true => some (false, ghG [] (t7 fu))
  | false => (tb6 fu) f
theorem tb7_sound (fu : Nat) : SoundF' Try.prog (tb7 fu) := by
  intro f own told h
  unfold tb7 at h
  split at h
  · rename_i hb
    cases h
    have := Nat.eq_of_beq_eq_true hb
    subst this
    exact ghG_sound (s7 fu)
  · exact (tb6_sound fu) f own told h

end Go.Proofs.Ytkefbcnibffekaa.V

/- Printed by ugen: (*daisychain/entry.Log).Last -/
namespace Go.Proofs.Ytkefbcnibffekaa.V
set_option maxRecDepth 100000
set_option maxHeartbeats 4000000


noncomputable def code15 : Code := match Try.f15.body with | some c => c | none => .skip

noncomputable def F15 {R : Type} (fu : Nat) (l_base : Int) (l_term : Int) (l_l : List (List D)) (k0 : Int → Option R) : Option R :=
  (k0 (IntKind.i64.wrap (l_base + ofN l_l.length)))

noncomputable def pc15 (fu : Nat) : Nat → Option ToldP := fun _ => none
noncomputable def t15 (fu : Nat) : ToldF := fun _ args s K => match args, s with
  | [.ptr 0 0], [.obj [.int .i64 l_base, .int .i64 l_term, .fz zq0 l_l false]] => (match FT.sames zq0 ft0 with | true => F15 fu l_base l_term l_l (fun o_ => K (.int .i64 o_) [.obj [.int .i64 (l_base), .int .i64 (l_term), .fz ft0 (l_l) false]]) | false => none)
  | _, _ => none

theorem e15 (R : Type) (K : UV → USt → Option R) (fu : Nat) (l_base : Int) (l_term : Int) (l_l : List (List D)) :
    F15 fu l_base l_term l_l (fun o_ => K (.int .i64 o_) [.obj [.int .i64 (l_base), .int .i64 (l_term), .fz ft0 (l_l) false]]) = ufun Try.prog ⟨(tb7 fu), pc15 fu⟩ 300 15 [.ptr 0 0] [.obj [.int .i64 l_base, .int .i64 l_term, .fz ft0 l_l false]] (funK 1 [.gc, .fzC 0 2 ft0, .gc] K) := by kernel_rfl

theorem s15 (fu : Nat) : Tells Try.prog 15 (t15 fu) := by
  refine ufun_sound (T := ⟨(tb7 fu), pc15 fu⟩) (m := 1) (gout := [.gc, .fzC 0 2 ft0, .gc]) (k := 300) (tb7_sound fu) (fun fn body hf hb => ?_) (fun R args s K r h => ?_) (fun R args s K r h => ?_)
  · have hc : body = code15 := by
      have h1 : Try.prog.funcs[15]? = some Try.f15 := rfl
      rw [h1] at hf; cases hf
      have h2 : Try.f15.body = some code15 := rfl
      rw [h2] at hb; cases hb; rfl
    subst hc
    exact SoundPc.none _ _ _
  · unfold t15 at h; split at h
    · rfl
    · cases h
  · unfold t15 at h; split at h
    case h_2 => cases h
    split at h
    case h_2 => cases h
    rename_i hq
    have hq := FT.sames_eq _ _ hq
    subst hq
    exact (e15 R K fu _ _ _).symm.trans h

noncomputable def tb15 (fu : Nat) : FuncId → Option (Bool × ToldF) := fun f => match Nat.beq f 15 with
  | true => some (false, ghG [.gc, .fzC 0 2 ft0, .gc] (t15 fu))
  | false => (tb7 fu) f
theorem tb15_sound (fu : Nat) : SoundF' Try.prog (tb15 fu) := by
  intro f own told h
  unfold tb15 at h
  split at h
  · rename_i hb
    cases h
    have := Nat.eq_of_beq_eq_true hb
    subst this
    exact ghG_sound (s15 fu)
  · exact (tb7_sound fu) f own told h

end Go.Proofs.Ytkefbcnibffekaa.V

/- Printed by ugen: (*daisychain/entry.Log).Term -/
namespace Go.Proofs.Ytkefbcnibffekaa.V
set_option maxRecDepth 100000
set_option maxHeartbeats 4000000


noncomputable def code24 : Code := match Try.f24.body with | some c => c | none => .skip

noncomputable def F24 {R : Type} (fu : Nat) (k_ : Int) (l_base : Int) (l_term : Int) (l_l : List (List D)) (k0 : Int → Bool → Option R) : Option R :=
  bif decide (k_ < l_base) then (k0 0 false) else F15 fu l_base l_term l_l fun o_0 => bif decide (o_0 < k_) then (k0 0 false) else bif decide (k_ = l_base) then (k0 l_term true) else bif within (IntKind.i64.wrap (IntKind.i64.wrap (k_ - l_base) - 1)) l_l.length then (k0 ((cell 0 (elem (IntKind.i64.wrap (IntKind.i64.wrap (k_ - l_base) - 1)).toNat l_l)).toInt) true) else none

noncomputable def pc24 (fu : Nat) : Nat → Option ToldP := fun _ => none
noncomputable def t24 (fu : Nat) : ToldF := fun _ args s K => match args, s with
  | [.ptr 0 0, .int .i64 k_], [.obj [.int .i64 l_base, .int .i64 l_term, .fz zq0 l_l false]] => (match FT.sames zq0 ft0 with | true => F24 fu k_ l_base l_term l_l (fun o_ o_1 => K (.tuple [.int .i64 o_, .bool o_1]) [.obj [.int .i64 (l_base), .int .i64 (l_term), .fz ft0 (l_l) false]]) | false => none)
  | _, _ => none

theorem e24 (R : Type) (K : UV → USt → Option R) (fu : Nat) (k_ : Int) (l_base : Int) (l_term : Int) (l_l : List (List D)) :
    F24 fu k_ l_base l_term l_l (fun o_ o_1 => K (.tuple [.int .i64 o_, .bool o_1]) [.obj [.int .i64 (l_base), .int .i64 (l_term), .fz ft0 (l_l) false]]) = ufun Try.prog ⟨(tb15 fu), pc24 fu⟩ 300 24 [.ptr 0 0, .int .i64 k_] [.obj [.int .i64 l_base, .int .i64 l_term, .fz ft0 l_l false]] (funK 1 [.gc, .fzC 0 2 ft0, .gc] K) := by kernel_rfl

theorem s24 (fu : Nat) : Tells Try.prog 24 (t24 fu) := by
  refine ufun_sound (T := ⟨(tb15 fu), pc24 fu⟩) (m := 1) (gout := [.gc, .fzC 0 2 ft0, .gc]) (k := 300) (tb15_sound fu) (fun fn body hf hb => ?_) (fun R args s K r h => ?_) (fun R args s K r h => ?_)
  · have hc : body = code24 := by
      have h1 : Try.prog.funcs[24]? = some Try.f24 := rfl
      rw [h1] at hf; cases hf
      have h2 : Try.f24.body = some code24 := rfl
      rw [h2] at hb; cases hb; rfl
    subst hc
    exact SoundPc.none _ _ _
  · unfold t24 at h; split at h
    · rfl
    · cases h
  · unfold t24 at h; split at h
    case h_2 => cases h
    split at h
    case h_2 => cases h
    rename_i hq
    have hq := FT.sames_eq _ _ hq
    subst hq
    exact (e24 R K fu _ _ _ _).symm.trans h

noncomputable def tb24 (fu : Nat) : FuncId → Option (Bool × ToldF) := fun f => match Nat.beq f 24 with
  | true => some (false, ghG [.gc, .fzC 0 2 ft0, .gc] (t24 fu))
  | false => (tb15 fu) f
theorem tb24_sound (fu : Nat) : SoundF' Try.prog (tb24 fu) := by
  intro f own told h
  unfold tb24 at h
  split at h
  · rename_i hb
    cases h
    have := Nat.eq_of_beq_eq_true hb
    subst this
    exact ghG_sound (s24 fu)
  · exact (tb15_sound fu) f own told h

end Go.Proofs.Ytkefbcnibffekaa.V

/- Printed by ugen: daisychain/daisychainref11.Last -/
namespace Go.Proofs.Ytkefbcnibffekaa.V
set_option maxRecDepth 100000
set_option maxHeartbeats 4000000


noncomputable def code20 : Code := match Try.f20.body with | some c => c | none => .skip

noncomputable def F20 {R : Type} (fu : Nat) (l : List D) (k0 : Int → Option R) : Option R :=
  (k0 (IntKind.i64.wrap ((cell 0 l).toInt + ofN (cell 2 l).toRows.length)))

noncomputable def pc20 (fu : Nat) : Nat → Option ToldP := fun _ => none
noncomputable def t20 (fu : Nat) : ToldF := fun _ args s K => match args, s with
  | [.agg [.int .i64 q, .int .i64 q1, .fz zq0 q2 false]], [] => (match FT.sames zq0 ft0 with | true => F20 fu [D.int q, D.int q1, D.row q2] (fun o_ => K (.int .i64 o_) []) | false => none)
  | _, _ => none

theorem e20 (R : Type) (K : UV → USt → Option R) (fu : Nat) (q : Int) (q1 : Int) (q2 : List (List D)) :
    F20 fu [D.int q, D.int q1, D.row q2] (fun o_ => K (.int .i64 o_) []) = ufun Try.prog ⟨(tb24 fu), pc20 fu⟩ 300 20 [.agg [.int .i64 q, .int .i64 q1, .fz ft0 q2 false]] [] (funK 0 [.gc] K) := by kernel_rfl

theorem s20 (fu : Nat) : Tells Try.prog 20 (t20 fu) := by
  refine ufun_sound (T := ⟨(tb24 fu), pc20 fu⟩) (m := 0) (gout := [.gc]) (k := 300) (tb24_sound fu) (fun fn body hf hb => ?_) (fun R args s K r h => ?_) (fun R args s K r h => ?_)
  · have hc : body = code20 := by
      have h1 : Try.prog.funcs[20]? = some Try.f20 := rfl
      rw [h1] at hf; cases hf
      have h2 : Try.f20.body = some code20 := rfl
      rw [h2] at hb; cases hb; rfl
    subst hc
    exact SoundPc.none _ _ _
  · unfold t20 at h; split at h
    · rfl
    · cases h
  · unfold t20 at h; split at h
    case h_2 => cases h
    split at h
    case h_2 => cases h
    rename_i hq
    have hq := FT.sames_eq _ _ hq
    subst hq
    exact (e20 R K fu _ _ _).symm.trans h

noncomputable def tb20 (fu : Nat) : FuncId → Option (Bool × ToldF) := fun f => match Nat.beq f 20 with
  | true => some (false, ghG [.fzP 0 [2] ft0] (t20 fu))
  | false => (tb24 fu) f
theorem tb20_sound (fu : Nat) : SoundF' Try.prog (tb20 fu) := by
  intro f own told h
  unfold tb20 at h
  split at h
  · rename_i hb
    cases h
    have := Nat.eq_of_beq_eq_true hb
    subst this
    exact ghG_sound (s20 fu)
  · exact (tb24_sound fu) f own told h

end Go.Proofs.Ytkefbcnibffekaa.V

/- Printed by ugen: daisychain/daisychainref11.TermAt -/
namespace Go.Proofs.Ytkefbcnibffekaa.V
set_option maxRecDepth 100000
set_option maxHeartbeats 4000000


noncomputable def code25 : Code := match Try.f25.body with | some c => c | none => .skip

noncomputable def F25 {R : Type} (fu : Nat) (l : List D) (k_ : Int) (k0 : Int → Bool → Option R) : Option R :=
  bif decide (k_ = (cell 0 l).toInt) then (k0 ((cell 1 l).toInt) true) else bif decide (k_ < (cell 0 l).toInt) then (k0 0 false) else F20 fu [D.int (cell 0 l).toInt, D.int (cell 1 l).toInt, D.row (cell 2 l).toRows] fun o_0 => bif decide (o_0 < k_) then (k0 0 false) else bif within (IntKind.i64.wrap (IntKind.i64.wrap (k_ - (cell 0 l).toInt) - 1)) (cell 2 l).toRows.length then (k0 ((cell 0 (elem (IntKind.i64.wrap (IntKind.i64.wrap (k_ - (cell 0 l).toInt) - 1)).toNat (cell 2 l).toRows)).toInt) true) else none

noncomputable def pc25 (fu : Nat) : Nat → Option ToldP := fun _ => none
noncomputable def t25 (fu : Nat) : ToldF := fun _ args s K => match args, s with
  | [.agg [.int .i64 q, .int .i64 q1, .fz zq0 q2 false], .int .i64 k_], [] => (match FT.sames zq0 ft0 with | true => F25 fu [D.int q, D.int q1, D.row q2] k_ (fun o_ o_1 => K (.tuple [.int .i64 o_, .bool o_1]) []) | false => none)
  | _, _ => none

theorem e25 (R : Type) (K : UV → USt → Option R) (fu : Nat) (q : Int) (q1 : Int) (q2 : List (List D)) (k_ : Int) :
    F25 fu [D.int q, D.int q1, D.row q2] k_ (fun o_ o_1 => K (.tuple [.int .i64 o_, .bool o_1]) []) = ufun Try.prog ⟨(tb20 fu), pc25 fu⟩ 300 25 [.agg [.int .i64 q, .int .i64 q1, .fz ft0 q2 false], .int .i64 k_] [] (funK 0 [.gc] K) := by kernel_rfl

theorem s25 (fu : Nat) : Tells Try.prog 25 (t25 fu) := by
  refine ufun_sound (T := ⟨(tb20 fu), pc25 fu⟩) (m := 0) (gout := [.gc]) (k := 300) (tb20_sound fu) (fun fn body hf hb => ?_) (fun R args s K r h => ?_) (fun R args s K r h => ?_)
  · have hc : body = code25 := by
      have h1 : Try.prog.funcs[25]? = some Try.f25 := rfl
      rw [h1] at hf; cases hf
      have h2 : Try.f25.body = some code25 := rfl
      rw [h2] at hb; cases hb; rfl
    subst hc
    exact SoundPc.none _ _ _
  · unfold t25 at h; split at h
    · rfl
    · cases h
  · unfold t25 at h; split at h
    case h_2 => cases h
    split at h
    case h_2 => cases h
    rename_i hq
    have hq := FT.sames_eq _ _ hq
    subst hq
    exact (e25 R K fu _ _ _ _).symm.trans h

noncomputable def tb25 (fu : Nat) : FuncId → Option (Bool × ToldF) := fun f => match Nat.beq f 25 with
  | true => some (false, ghG [.fzP 0 [2] ft0] (t25 fu))
  | false => (tb20 fu) f
theorem tb25_sound (fu : Nat) : SoundF' Try.prog (tb25 fu) := by
  intro f own told h
  unfold tb25 at h
  split at h
  · rename_i hb
    cases h
    have := Nat.eq_of_beq_eq_true hb
    subst this
    exact ghG_sound (s25 fu)
  · exact (tb20_sound fu) f own told h

end Go.Proofs.Ytkefbcnibffekaa.V

/- Printed by ugen: (*daisychain/entry.Log).Base -/
namespace Go.Proofs.Ytkefbcnibffekaa.V
set_option maxRecDepth 100000
set_option maxHeartbeats 4000000


noncomputable def code12 : Code := match Try.f12.body with | some c => c | none => .skip

noncomputable def F12 {R : Type} (fu : Nat) (l_base : Int) (l_term : Int) (l_l : List (List D)) (k0 : Option R) : Option R :=
  (k0)

noncomputable def pc12 (fu : Nat) : Nat → Option ToldP := fun _ => none
noncomputable def t12 (fu : Nat) : ToldF := fun _ args s K => match args, s with
  | [.ptr 0 0], [.obj [.int .i64 l_base, .int .i64 l_term, .fz zq0 l_l false]] => (match FT.sames zq0 ft0 with | true => F12 fu l_base l_term l_l (K (.int .i64 (l_base)) [.obj [.int .i64 (l_base), .int .i64 (l_term), .fz ft0 (l_l) false]]) | false => none)
  | _, _ => none

theorem e12 (R : Type) (K : UV → USt → Option R) (fu : Nat) (l_base : Int) (l_term : Int) (l_l : List (List D)) :
    F12 fu l_base l_term l_l (K (.int .i64 (l_base)) [.obj [.int .i64 (l_base), .int .i64 (l_term), .fz ft0 (l_l) false]]) = ufun Try.prog ⟨(tb25 fu), pc12 fu⟩ 300 12 [.ptr 0 0] [.obj [.int .i64 l_base, .int .i64 l_term, .fz ft0 l_l false]] (funK 1 [.gc, .fzC 0 2 ft0, .gc] K) := by kernel_rfl

theorem s12 (fu : Nat) : Tells Try.prog 12 (t12 fu) := by
  refine ufun_sound (T := ⟨(tb25 fu), pc12 fu⟩) (m := 1) (gout := [.gc, .fzC 0 2 ft0, .gc]) (k := 300) (tb25_sound fu) (fun fn body hf hb => ?_) (fun R args s K r h => ?_) (fun R args s K r h => ?_)
  · have hc : body = code12 := by
      have h1 : Try.prog.funcs[12]? = some Try.f12 := rfl
      rw [h1] at hf; cases hf
      have h2 : Try.f12.body = some code12 := rfl
      rw [h2] at hb; cases hb; rfl
    subst hc
    exact SoundPc.none _ _ _
  · unfold t12 at h; split at h
    · rfl
    · cases h
  · unfold t12 at h; split at h
    case h_2 => cases h
    split at h
    case h_2 => cases h
    rename_i hq
    have hq := FT.sames_eq _ _ hq
    subst hq
    exact (e12 R K fu _ _ _).symm.trans h

noncomputable def tb12 (fu : Nat) : FuncId → Option (Bool × ToldF) := fun f => match Nat.beq f 12 with
  | true => some (false, ghG [.gc, .fzC 0 2 ft0, .gc] (t12 fu))
  | false => (tb25 fu) f
theorem tb12_sound (fu : Nat) : SoundF' Try.prog (tb12 fu) := by
  intro f own told h
  unfold tb12 at h
  split at h
  · rename_i hb
    cases h
    have := Nat.eq_of_beq_eq_true hb
    subst this
    exact ghG_sound (s12 fu)
  · exact (tb25_sound fu) f own told h

end Go.Proofs.Ytkefbcnibffekaa.V

/- Printed by ugen: (*daisychain/entry.Log).Get -/
namespace Go.Proofs.Ytkefbcnibffekaa.V
set_option maxRecDepth 100000
set_option maxHeartbeats 4000000


noncomputable def code17 : Code := match Try.f17.body with | some c => c | none => .skip

noncomputable def F17 {R : Type} (fu : Nat) (k_ : Int) (l_base : Int) (l_term : Int) (l_l : List (List D)) (k0 : (List D) → Bool → Option R) : Option R :=
  bif decide (k_ ≤ l_base) then (k0 ([D.int 0, D.str ((ByteArray.mk #[]))]) false) else F15 fu l_base l_term l_l fun o_0 => bif decide (o_0 < k_) then (k0 ([D.int 0, D.str ((ByteArray.mk #[]))]) false) else bif within (IntKind.i64.wrap (IntKind.i64.wrap (k_ - l_base) - 1)) l_l.length then (k0 ((elem (IntKind.i64.wrap (IntKind.i64.wrap (k_ - l_base) - 1)).toNat l_l)) true) else none

noncomputable def pc17 (fu : Nat) : Nat → Option ToldP := fun _ => none
noncomputable def t17 (fu : Nat) : ToldF := fun _ args s K => match args, s with
  | [.ptr 0 0, .int .i64 k_], [.obj [.int .i64 l_base, .int .i64 l_term, .fz zq0 l_l false]] => (match FT.sames zq0 ft0 with | true => F17 fu k_ l_base l_term l_l (fun o_ o_1 => K (.tuple [.agg (ofDs 0 ft0 o_), .bool o_1]) [.obj [.int .i64 (l_base), .int .i64 (l_term), .fz ft0 (l_l) false]]) | false => none)
  | _, _ => none

theorem e17 (R : Type) (K : UV → USt → Option R) (fu : Nat) (k_ : Int) (l_base : Int) (l_term : Int) (l_l : List (List D)) :
    F17 fu k_ l_base l_term l_l (fun o_ o_1 => K (.tuple [.agg (ofDs 0 ft0 o_), .bool o_1]) [.obj [.int .i64 (l_base), .int .i64 (l_term), .fz ft0 (l_l) false]]) = ufun Try.prog ⟨(tb12 fu), pc17 fu⟩ 300 17 [.ptr 0 0, .int .i64 k_] [.obj [.int .i64 l_base, .int .i64 l_term, .fz ft0 l_l false]] (funK 1 [.gc, .fzC 0 2 ft0, .gc] K) := by kernel_rfl

theorem s17 (fu : Nat) : Tells Try.prog 17 (t17 fu) := by
  refine ufun_sound (T := ⟨(tb12 fu), pc17 fu⟩) (m := 1) (gout := [.gc, .fzC 0 2 ft0, .gc]) (k := 300) (tb12_sound fu) (fun fn body hf hb => ?_) (fun R args s K r h => ?_) (fun R args s K r h => ?_)
  · have hc : body = code17 := by
      have h1 : Try.prog.funcs[17]? = some Try.f17 := rfl
      rw [h1] at hf; cases hf
      have h2 : Try.f17.body = some code17 := rfl
      rw [h2] at hb; cases hb; rfl
    subst hc
    exact SoundPc.none _ _ _
  · unfold t17 at h; split at h
    · rfl
    · cases h
  · unfold t17 at h; split at h
    case h_2 => cases h
    split at h
    case h_2 => cases h
    rename_i hq
    have hq := FT.sames_eq _ _ hq
    subst hq
    exact (e17 R K fu _ _ _ _).symm.trans h

noncomputable def tb17 (fu : Nat) : FuncId → Option (Bool × ToldF) := fun f => match Nat.beq f 17 with
  | true => some (false, ghG [.gc, .fzC 0 2 ft0, .gc] (t17 fu))
  | false => (tb12 fu) f
theorem tb17_sound (fu : Nat) : SoundF' Try.prog (tb17 fu) := by
  intro f own told h
  unfold tb17 at h
  split at h
  · rename_i hb
    cases h
    have := Nat.eq_of_beq_eq_true hb
    subst this
    exact ghG_sound (s17 fu)
  · exact (tb12_sound fu) f own told h

end Go.Proofs.Ytkefbcnibffekaa.V

/- Printed by ugen: (*daisychain/entry.Log).Copy -/
namespace Go.Proofs.Ytkefbcnibffekaa.V
set_option maxRecDepth 100000
set_option maxHeartbeats 4000000


noncomputable def code9 : Code := match Try.f9.body with | some c => c | none => .skip

noncomputable def F9 {R : Type} (fu : Nat) (l_base : Int) (l_term : Int) (l_l : List (List D)) (k0 : Option R) : Option R :=
  bif fits l_l.length 24 then (k0) else none

noncomputable def pc9 (fu : Nat) : Nat → Option ToldP := fun _ => none
noncomputable def t9 (fu : Nat) : ToldF := fun _ args s K => match args, s with
  | [.ptr 0 0], [.obj [.int .i64 l_base, .int .i64 l_term, .fz zq0 l_l false]] => (match FT.sames zq0 ft0 with | true => F9 fu l_base l_term l_l (K (.ptr 1 0) [.obj [.int .i64 (l_base), .int .i64 (l_term), .fz ft0 (l_l) false], .obj [.int .i64 (l_base), .int .i64 (l_term), .fz ft0 (l_l) false]]) | false => none)
  | _, _ => none

theorem e9 (R : Type) (K : UV → USt → Option R) (fu : Nat) (l_base : Int) (l_term : Int) (l_l : List (List D)) :
    F9 fu l_base l_term l_l (K (.ptr 1 0) [.obj [.int .i64 (l_base), .int .i64 (l_term), .fz ft0 (l_l) false], .obj [.int .i64 (l_base), .int .i64 (l_term), .fz ft0 (l_l) false]]) = ufun Try.prog ⟨(tb17 fu), pc9 fu⟩ 300 9 [.ptr 0 0] [.obj [.int .i64 l_base, .int .i64 l_term, .fz ft0 l_l false]] (funK 1 [.gc, .fzC 0 2 ft0, .fzC 1 2 ft0, .gc] K) := by kernel_rfl

theorem s9 (fu : Nat) : Tells Try.prog 9 (t9 fu) := by
  refine ufun_sound (T := ⟨(tb17 fu), pc9 fu⟩) (m := 1) (gout := [.gc, .fzC 0 2 ft0, .fzC 1 2 ft0, .gc]) (k := 300) (tb17_sound fu) (fun fn body hf hb => ?_) (fun R args s K r h => ?_) (fun R args s K r h => ?_)
  · have hc : body = code9 := by
      have h1 : Try.prog.funcs[9]? = some Try.f9 := rfl
      rw [h1] at hf; cases hf
      have h2 : Try.f9.body = some code9 := rfl
      rw [h2] at hb; cases hb; rfl
    subst hc
    exact SoundPc.none _ _ _
  · unfold t9 at h; split at h
    · rfl
    · cases h
  · unfold t9 at h; split at h
    case h_2 => cases h
    split at h
    case h_2 => cases h
    rename_i hq
    have hq := FT.sames_eq _ _ hq
    subst hq
    exact (e9 R K fu _ _ _).symm.trans h

noncomputable def tb9 (fu : Nat) : FuncId → Option (Bool × ToldF) := fun f => match Nat.beq f 9 with
  | true => some (false, ghG [.gc, .fzC 0 2 ft0, .gc] (t9 fu))
  | false => (tb17 fu) f
theorem tb9_sound (fu : Nat) : SoundF' Try.prog (tb9 fu) := by
  intro f own told h
  unfold tb9 at h
  split at h
  · rename_i hb
    cases h
    have := Nat.eq_of_beq_eq_true hb
    subst this
    exact ghG_sound (s9 fu)
  · exact (tb17_sound fu) f own told h

end Go.Proofs.Ytkefbcnibffekaa.V

/- Printed by ugen: (*daisychain/entry.Log).Add -/
namespace Go.Proofs.Ytkefbcnibffekaa.V
set_option maxRecDepth 100000
set_option maxHeartbeats 4000000


noncomputable def code13 : Code := match Try.f13.body with | some c => c | none => .skip

noncomputable def F13 {R : Type} (fu : Nat) (e : List D) (l_base : Int) (l_term : Int) (l_l : List (List D)) (k0 : Int → (List (List D)) → Option R) : Option R :=
  bif decide (ofN l_l.length = 0) && decide (ofN l_l.length = 0) then F15 fu l_base l_term [[D.int (cell 0 e).toInt, D.str (cell 1 e).toStr]] fun o_0 => (k0 o_0 ([[D.int (cell 0 e).toInt, D.str (cell 1 e).toStr]])) else bif decide ((0 : Int) ≤ 0 ∧ 0 ≤ ofN l_l.length) && upTo (ofN l_l.length) l_l.length && decide (ofN l_l.length = ofN l_l.length) then bif fits ((part l_l 0 (ofN l_l.length).toNat).length + 1) 24 then F15 fu l_base l_term (part l_l 0 (ofN l_l.length).toNat ++ [[D.int (cell 0 e).toInt, D.str (cell 1 e).toStr]]) fun o_1 => (k0 o_1 (part l_l 0 (ofN l_l.length).toNat ++ [[D.int (cell 0 e).toInt, D.str (cell 1 e).toStr]])) else none else none

noncomputable def pc13 (fu : Nat) : Nat → Option ToldP := fun _ => none
noncomputable def t13 (fu : Nat) : ToldF := fun _ args s K => match args, s with
  | [.ptr 0 0, .agg [.int .i64 q, .str q1]], [.obj [.int .i64 l_base, .int .i64 l_term, .fz zq0 l_l false]] => (match FT.sames zq0 ft0 with | true => F13 fu [D.int q, D.str q1] l_base l_term l_l (fun o_ o_1 => K (.int .i64 o_) [.obj [.int .i64 (l_base), .int .i64 (l_term), .fz ft0 o_1 false]]) | false => none)
  | _, _ => none

theorem e13 (R : Type) (K : UV → USt → Option R) (fu : Nat) (q : Int) (q1 : ByteArray) (l_base : Int) (l_term : Int) (l_l : List (List D)) :
    F13 fu [D.int q, D.str q1] l_base l_term l_l (fun o_ o_1 => K (.int .i64 o_) [.obj [.int .i64 (l_base), .int .i64 (l_term), .fz ft0 o_1 false]]) = ufun Try.prog ⟨(tb9 fu), pc13 fu⟩ 300 13 [.ptr 0 0, .agg [.int .i64 q, .str q1]] [.obj [.int .i64 l_base, .int .i64 l_term, .fz ft0 l_l false]] (funK 1 [.gc, .fzC 0 2 ft0, .gc] K) := by kernel_rfl

theorem s13 (fu : Nat) : Tells Try.prog 13 (t13 fu) := by
  refine ufun_sound (T := ⟨(tb9 fu), pc13 fu⟩) (m := 1) (gout := [.gc, .fzC 0 2 ft0, .gc]) (k := 300) (tb9_sound fu) (fun fn body hf hb => ?_) (fun R args s K r h => ?_) (fun R args s K r h => ?_)
  · have hc : body = code13 := by
      have h1 : Try.prog.funcs[13]? = some Try.f13 := rfl
      rw [h1] at hf; cases hf
      have h2 : Try.f13.body = some code13 := rfl
      rw [h2] at hb; cases hb; rfl
    subst hc
    exact SoundPc.none _ _ _
  · unfold t13 at h; split at h
    · rfl
    · cases h
  · unfold t13 at h; split at h
    case h_2 => cases h
    split at h
    case h_2 => cases h
    rename_i hq
    have hq := FT.sames_eq _ _ hq
    subst hq
    exact (e13 R K fu _ _ _ _ _).symm.trans h

noncomputable def tb13 (fu : Nat) : FuncId → Option (Bool × ToldF) := fun f => match Nat.beq f 13 with
  | true => some (false, ghG [.gc, .fzC 0 2 ft0, .gc] (t13 fu))
  | false => (tb9 fu) f
theorem tb13_sound (fu : Nat) : SoundF' Try.prog (tb13 fu) := by
  intro f own told h
  unfold tb13 at h
  split at h
  · rename_i hb
    cases h
    have := Nat.eq_of_beq_eq_true hb
    subst this
    exact ghG_sound (s13 fu)
  · exact (tb9_sound fu) f own told h

end Go.Proofs.Ytkefbcnibffekaa.V

/- Printed by ugen: (*daisychain/entry.Log).Pass -/
namespace Go.Proofs.Ytkefbcnibffekaa.V
set_option maxRecDepth 100000
set_option maxHeartbeats 4000000


noncomputable def code14 : Code := match Try.f14.body with | some c => c | none => .skip

noncomputable def F14 {R : Type} (fu : Nat) (k_ : Int) (l_base : Int) (l_term : Int) (l_l : List (List D)) (k0 : Int → Int → Int → (List (List D)) → Option R) : Option R :=
  F24 fu k_ l_base l_term l_l fun o_0 o_1 => bif !o_1 then (k0 1 l_base l_term l_l) else bif decide (0 ≤ IntKind.i64.wrap (k_ - l_base) ∧ IntKind.i64.wrap (k_ - l_base) ≤ ofN l_l.length) && upTo (ofN l_l.length) l_l.length then bif fits (part l_l (IntKind.i64.wrap (k_ - l_base)).toNat (ofN l_l.length).toNat).length 24 then (k0 0 k_ o_0 (part l_l (IntKind.i64.wrap (k_ - l_base)).toNat (ofN l_l.length).toNat)) else none else none

noncomputable def pc14 (fu : Nat) : Nat → Option ToldP := fun _ => none
noncomputable def t14 (fu : Nat) : ToldF := fun _ args s K => match args, s with
  | [.ptr 0 0, .int .i64 k_], [.obj [.int .i64 l_base, .int .i64 l_term, .fz zq0 l_l false]] => (match FT.sames zq0 ft0 with | true => F14 fu k_ l_base l_term l_l (fun o_ o_1 o_2 o_3 => K (.int .i64 o_) [.obj [.int .i64 o_1, .int .i64 o_2, .fz ft0 o_3 false]]) | false => none)
  | _, _ => none

theorem e14 (R : Type) (K : UV → USt → Option R) (fu : Nat) (k_ : Int) (l_base : Int) (l_term : Int) (l_l : List (List D)) :
    F14 fu k_ l_base l_term l_l (fun o_ o_1 o_2 o_3 => K (.int .i64 o_) [.obj [.int .i64 o_1, .int .i64 o_2, .fz ft0 o_3 false]]) = ufun Try.prog ⟨(tb13 fu), pc14 fu⟩ 300 14 [.ptr 0 0, .int .i64 k_] [.obj [.int .i64 l_base, .int .i64 l_term, .fz ft0 l_l false]] (funK 1 [.gc, .fzC 0 2 ft0, .gc] K) := by kernel_rfl

theorem s14 (fu : Nat) : Tells Try.prog 14 (t14 fu) := by
  refine ufun_sound (T := ⟨(tb13 fu), pc14 fu⟩) (m := 1) (gout := [.gc, .fzC 0 2 ft0, .gc]) (k := 300) (tb13_sound fu) (fun fn body hf hb => ?_) (fun R args s K r h => ?_) (fun R args s K r h => ?_)
  · have hc : body = code14 := by
      have h1 : Try.prog.funcs[14]? = some Try.f14 := rfl
      rw [h1] at hf; cases hf
      have h2 : Try.f14.body = some code14 := rfl
      rw [h2] at hb; cases hb; rfl
    subst hc
    exact SoundPc.none _ _ _
  · unfold t14 at h; split at h
    · rfl
    · cases h
  · unfold t14 at h; split at h
    case h_2 => cases h
    split at h
    case h_2 => cases h
    rename_i hq
    have hq := FT.sames_eq _ _ hq
    subst hq
    exact (e14 R K fu _ _ _ _).symm.trans h

noncomputable def tb14 (fu : Nat) : FuncId → Option (Bool × ToldF) := fun f => match Nat.beq f 14 with
  | true => some (false, ghG [.gc, .fzC 0 2 ft0, .gc] (t14 fu))
  | false => (tb13 fu) f
theorem tb14_sound (fu : Nat) : SoundF' Try.prog (tb14 fu) := by
  intro f own told h
  unfold tb14 at h
  split at h
  · rename_i hb
    cases h
    have := Nat.eq_of_beq_eq_true hb
    subst this
    exact ghG_sound (s14 fu)
  · exact (tb13_sound fu) f own told h

end Go.Proofs.Ytkefbcnibffekaa.V

/- Printed by ugen: daisychain/daisychainref11.Pass -/
namespace Go.Proofs.Ytkefbcnibffekaa.V
set_option maxRecDepth 100000
set_option maxHeartbeats 4000000


noncomputable def code22 : Code := match Try.f22.body with | some c => c | none => .skip

noncomputable def F22 {R : Type} (fu : Nat) (l : List D) (k_ : Int) (k0 : (List D) → Int → Option R) : Option R :=
  F25 fu [D.int (cell 0 l).toInt, D.int (cell 1 l).toInt, D.row (cell 2 l).toRows] k_ fun o_0 o_1 => bif !o_1 then (k0 l 1) else bif decide (0 ≤ IntKind.i64.wrap (k_ - (cell 0 l).toInt) ∧ IntKind.i64.wrap (k_ - (cell 0 l).toInt) ≤ ofN (cell 2 l).toRows.length) && upTo (ofN (cell 2 l).toRows.length) (cell 2 l).toRows.length then (k0 [D.int k_, D.int o_0, D.row (part (cell 2 l).toRows (IntKind.i64.wrap (k_ - (cell 0 l).toInt)).toNat (ofN (cell 2 l).toRows.length).toNat)] 0) else none

noncomputable def pc22 (fu : Nat) : Nat → Option ToldP := fun _ => none
noncomputable def t22 (fu : Nat) : ToldF := fun _ args s K => match args, s with
  | [.agg [.int .i64 q, .int .i64 q1, .fz zq0 q2 false], .int .i64 k_], [] => (match FT.sames zq0 ft0 with | true => F22 fu [D.int q, D.int q1, D.row q2] k_ (fun o_ o_1 => K (.tuple [.agg (ofDs 0 ft1 o_), .int .i64 o_1]) []) | false => none)
  | _, _ => none

theorem e22 (R : Type) (K : UV → USt → Option R) (fu : Nat) (q : Int) (q1 : Int) (q2 : List (List D)) (k_ : Int) :
    F22 fu [D.int q, D.int q1, D.row q2] k_ (fun o_ o_1 => K (.tuple [.agg (ofDs 0 ft1 o_), .int .i64 o_1]) []) = ufun Try.prog ⟨(tb14 fu), pc22 fu⟩ 300 22 [.agg [.int .i64 q, .int .i64 q1, .fz ft0 q2 false], .int .i64 k_] [] (funK 0 [.fzP 0 [0, 2] ft0, .gc] K) := by kernel_rfl

theorem s22 (fu : Nat) : Tells Try.prog 22 (t22 fu) := by
  refine ufun_sound (T := ⟨(tb14 fu), pc22 fu⟩) (m := 0) (gout := [.fzP 0 [0, 2] ft0, .gc]) (k := 300) (tb14_sound fu) (fun fn body hf hb => ?_) (fun R args s K r h => ?_) (fun R args s K r h => ?_)
  · have hc : body = code22 := by
      have h1 : Try.prog.funcs[22]? = some Try.f22 := rfl
      rw [h1] at hf; cases hf
      have h2 : Try.f22.body = some code22 := rfl
      rw [h2] at hb; cases hb; rfl
    subst hc
    exact SoundPc.none _ _ _
  · unfold t22 at h; split at h
    · rfl
    · cases h
  · unfold t22 at h; split at h
    case h_2 => cases h
    split at h
    case h_2 => cases h
    rename_i hq
    have hq := FT.sames_eq _ _ hq
    subst hq
    exact (e22 R K fu _ _ _ _).symm.trans h

noncomputable def tb22 (fu : Nat) : FuncId → Option (Bool × ToldF) := fun f => match Nat.beq f 22 with
  | true => some (false, ghG [.fzP 0 [2] ft0] (t22 fu))
  | false => (tb14 fu) f
theorem tb22_sound (fu : Nat) : SoundF' Try.prog (tb22 fu) := by
  intro f own told h
  unfold tb22 at h
  split at h
  · rename_i hb
    cases h
    have := Nat.eq_of_beq_eq_true hb
    subst this
    exact ghG_sound (s22 fu)
  · exact (tb14_sound fu) f own told h

end Go.Proofs.Ytkefbcnibffekaa.V

/- Printed by ugen: (*daisychain/entry.Log).Merge -/
namespace Go.Proofs.Ytkefbcnibffekaa.V
set_option maxRecDepth 100000
set_option maxHeartbeats 4000000


noncomputable def code11 : Code := match Try.f11.body with | some c => c | none => .skip
theorem a11_250 : codeAt code11 250 = some (.loop (loopBody (codeAt code11 250))) := by kernel_rfl
noncomputable def F11_250 {R : Type} (fu : Nat) (at_ : Int) (x : List (List D)) (x1 : Int) (l : Int) (l1 : Int) : Nat → Int → (List (List D)) → ((List (List D)) → Option R) → Option R
  | 0, _, _, _ => none
  | n + 1, x2, l2, k0 => bif decide (x2 < x1) then bif within x2 x.length then F24 fu (IntKind.i64.wrap (IntKind.i64.wrap (at_ + 1) + x2)) l l1 l2 fun o_0 o_1 => bif o_1 then bif decide (o_0 = (cell 0 (elem x2.toNat x)).toInt) then (F11_250 fu at_ x x1 l l1 n (IntKind.i64.wrap (x2 + 1)) l2 k0) else bif decide ((0 : Int) ≤ 0 ∧ 0 ≤ if ofN l2.length < IntKind.i64.wrap (IntKind.i64.wrap (IntKind.i64.wrap (IntKind.i64.wrap (at_ + 1) + x2) - l) - 1) then ofN l2.length else IntKind.i64.wrap (IntKind.i64.wrap (IntKind.i64.wrap (IntKind.i64.wrap (at_ + 1) + x2) - l) - 1)) && upTo (if ofN l2.length < IntKind.i64.wrap (IntKind.i64.wrap (IntKind.i64.wrap (IntKind.i64.wrap (at_ + 1) + x2) - l) - 1) then ofN l2.length else IntKind.i64.wrap (IntKind.i64.wrap (IntKind.i64.wrap (IntKind.i64.wrap (at_ + 1) + x2) - l) - 1)) l2.length then F13 fu [D.int (cell 0 (elem x2.toNat x)).toInt, D.str (cell 1 (elem x2.toNat x)).toStr] l l1 (part l2 0 (if ofN l2.length < IntKind.i64.wrap (IntKind.i64.wrap (IntKind.i64.wrap (IntKind.i64.wrap (at_ + 1) + x2) - l) - 1) then ofN l2.length else IntKind.i64.wrap (IntKind.i64.wrap (IntKind.i64.wrap (IntKind.i64.wrap (at_ + 1) + x2) - l) - 1)).toNat) fun o_2 o_3 => (F11_250 fu at_ x x1 l l1 n (IntKind.i64.wrap (x2 + 1)) o_3 k0) else none else bif decide ((0 : Int) ≤ 0 ∧ 0 ≤ if ofN l2.length < IntKind.i64.wrap (IntKind.i64.wrap (IntKind.i64.wrap (IntKind.i64.wrap (at_ + 1) + x2) - l) - 1) then ofN l2.length else IntKind.i64.wrap (IntKind.i64.wrap (IntKind.i64.wrap (IntKind.i64.wrap (at_ + 1) + x2) - l) - 1)) && upTo (if ofN l2.length < IntKind.i64.wrap (IntKind.i64.wrap (IntKind.i64.wrap (IntKind.i64.wrap (at_ + 1) + x2) - l) - 1) then ofN l2.length else IntKind.i64.wrap (IntKind.i64.wrap (IntKind.i64.wrap (IntKind.i64.wrap (at_ + 1) + x2) - l) - 1)) l2.length then F13 fu [D.int (cell 0 (elem x2.toNat x)).toInt, D.str (cell 1 (elem x2.toNat x)).toStr] l l1 (part l2 0 (if ofN l2.length < IntKind.i64.wrap (IntKind.i64.wrap (IntKind.i64.wrap (IntKind.i64.wrap (at_ + 1) + x2) - l) - 1) then ofN l2.length else IntKind.i64.wrap (IntKind.i64.wrap (IntKind.i64.wrap (IntKind.i64.wrap (at_ + 1) + x2) - l) - 1)).toNat) fun o_4 o_5 => (F11_250 fu at_ x x1 l l1 n (IntKind.i64.wrap (x2 + 1)) o_5 k0) else none else none else (k0 l2)

noncomputable def t11_250 (fu n : Nat) : ToldP := fun _ e s K => match e, s with
  | [.ptr 0 0, .int .i64 at_, .fz zq0 more false, .fz zq1 x false, .int .i64 x1, .int .i64 x2], [.obj [.int .i64 l, .int .i64 l1, .fz zq2 l2 false]] => (match FT.sames zq0 ft0 with | true => (match FT.sames zq1 ft0 with | true => (match FT.sames zq2 ft0 with | true => F11_250 fu at_ x x1 l l1 n x2 l2 (fun o_ => K (.exit 0) (unpackM (bitsM 10 0xa) [.int .i64 (at_), .fz ft0 (more) false]) [.obj [.int .i64 (l), .int .i64 (l1), .fz ft0 o_ false]]) | false => none) | false => none) | false => none)
  | _, _ => none

noncomputable def pc11_250 (fu : Nat) : Nat → Option ToldP := fun _ => none
theorem e11_250 (fu n : Nat) (R : Type) (K : VExit → UEnv → USt → Option R) (at_ : Int) (more : List (List D)) (x : List (List D)) (x1 : Int) (x2 : Int) (l : Int) (l1 : Int) (l2 : List (List D)) :
    F11_250 fu at_ x x1 l l1 (n + 1) x2 l2 (fun o_ => K (.exit 0) (unpackM (bitsM 10 0xa) [.int .i64 (at_), .fz ft0 (more) false]) [.obj [.int .i64 (l), .int .i64 (l1), .fz ft0 o_ false]]) = uexec Try.prog (tb22 fu) 300 (pc11_250 fu) 500 (loopBody (codeAt code11 250)) (unpackM (bitsM 74 0x380000000000000000b) [.ptr 0 0, .int .i64 at_, .fz ft0 more false, .fz ft0 x false, .int .i64 x1, .int .i64 x2]) [.obj [.int .i64 l, .int .i64 l1, .fz ft0 l2 false]] (loopK 1 [.live (bitsM 74 0x380000000000000000b), .fzP 3 [] ft0, .fzP 71 [] ft0, .gc] [.live (bitsM 10 0x30a), .gc] (pkP (bitsM 74 0x380000000000000000b) (t11_250 fu n)) K) := by kernel_rfl

theorem p11_250 (fu : Nat) : SoundPc Try.prog 1 code11 (pc11_250 fu) := SoundPc.none _ _ _
theorem s11_250 (fu : Nat) : ∀ n, SoundP Try.prog 1 (.loop (loopBody (codeAt code11 250))) (pkP (bitsM 74 0x380000000000000000b) (t11_250 fu n)) := by
  refine loopP_sound (gin := [.live (bitsM 74 0x380000000000000000b), .fzP 3 [] ft0, .fzP 71 [] ft0, .gc]) (gout := [.live (bitsM 10 0x30a), .gc]) (k := 300) (tb22_sound fu) (p11_250 fu) (by decide) a11_250 (fun R e s K => ?_) (fun n R e s K r h => ?_)
  · unfold t11_250; repeat' split
    all_goals rfl
  · unfold t11_250 at h; split at h
    case h_2 => cases h
    split at h
    case h_2 => cases h
    rename_i hq
    have hq := FT.sames_eq _ _ hq
    subst hq
    split at h
    case h_2 => cases h
    rename_i hq
    have hq := FT.sames_eq _ _ hq
    subst hq
    split at h
    case h_2 => cases h
    rename_i hq
    have hq := FT.sames_eq _ _ hq
    subst hq
    exact (e11_250 fu n R K _ _ _ _ _ _ _ _).symm.trans h


noncomputable def F11 {R : Type} (fu : Nat) : Nat → Int → Int → (List (List D)) → Int → Int → (List (List D)) → (Int → Bool → (List (List D)) → Option R) → Option R
  | 0, _, _, _, _, _, _, _ => none
  | n + 1, at_, term, more, l_base, l_term, l_l, k0 => bif decide (at_ < 0) then (k0 0 false l_l) else bif decide (at_ < l_base) then bif decide (ofN more.length ≤ IntKind.i64.wrap (l_base - at_)) then (k0 (IntKind.i64.wrap (at_ + ofN more.length)) true l_l) else bif decide (0 ≤ IntKind.i64.wrap (l_base - at_) ∧ IntKind.i64.wrap (l_base - at_) ≤ ofN more.length) && upTo (ofN more.length) more.length then F11 fu n l_base l_term (part more (IntKind.i64.wrap (l_base - at_)).toNat (ofN more.length).toNat) l_base l_term l_l fun o_0 o_1 o_2 => (k0 o_0 o_1 o_2) else none else F24 fu at_ l_base l_term l_l fun o_3 o_4 => bif !o_4 then (k0 0 false l_l) else bif !decide (o_3 = term) then (k0 0 false l_l) else F11_250 fu at_ more (ofN more.length) l_base l_term fu 0 l_l fun o_5 => (k0 (IntKind.i64.wrap (at_ + ofN more.length)) true o_5)

noncomputable def pc11 (fu : Nat) : Nat → Option ToldP := fun p => match Nat.beq p 250 with | true => some (ghP 1 [.live (bitsM 74 0x380000000000000000b), .fzP 3 [] ft0, .fzP 71 [] ft0, .gc] (pkP (bitsM 74 0x380000000000000000b) (t11_250 fu fu))) | false => none
noncomputable def t11 (fu n : Nat) : ToldF := fun _ args s K => match args, s with
  | [.ptr 0 0, .int .i64 at_, .int .i64 term, .fz zq0 more false], [.obj [.int .i64 l_base, .int .i64 l_term, .fz zq1 l_l false]] => (match FT.sames zq0 ft0 with | true => (match FT.sames zq1 ft0 with | true => F11 fu n at_ term more l_base l_term l_l (fun o_ o_1 o_2 => K (.tuple [.int .i64 o_, .bool o_1]) [.obj [.int .i64 (l_base), .int .i64 (l_term), .fz ft0 o_2 false]]) | false => none) | false => none)
  | _, _ => none

noncomputable def tbs11 (fu n : Nat) : FuncId → Option (Bool × ToldF) := fun f => match Nat.beq f 11 with
  | true => some (false, ghG [.fzP 3 [] ft0, .gc, .fzC 0 2 ft0, .gc] (t11 fu n))
  | false => (tb22 fu) f
theorem tbs11_sound (fu n : Nat) (ih : Tells Try.prog 11 (t11 fu n)) : SoundF' Try.prog (tbs11 fu n) := by
  intro f own told h
  unfold tbs11 at h
  split at h
  · rename_i hb
    cases h
    have := Nat.eq_of_beq_eq_true hb
    subst this
    exact ghG_sound ih
  · exact (tb22_sound fu) f own told h
theorem e11 (R : Type) (K : UV → USt → Option R) (fu n : Nat) (at_ : Int) (term : Int) (more : List (List D)) (l_base : Int) (l_term : Int) (l_l : List (List D)) :
    F11 fu (n + 1) at_ term more l_base l_term l_l (fun o_ o_1 o_2 => K (.tuple [.int .i64 o_, .bool o_1]) [.obj [.int .i64 (l_base), .int .i64 (l_term), .fz ft0 o_2 false]]) = ufun Try.prog ⟨(tbs11 fu n), pc11 fu⟩ 300 11 [.ptr 0 0, .int .i64 at_, .int .i64 term, .fz ft0 more false] [.obj [.int .i64 l_base, .int .i64 l_term, .fz ft0 l_l false]] (funK 1 [.gc, .fzC 0 2 ft0, .gc] K) := by kernel_rfl

theorem s11 (fu : Nat) : ∀ n, Tells Try.prog 11 (t11 fu n) := by
  intro n
  induction n with
  | zero =>
    intro R args s K r h
    unfold t11 at h
    repeat' split at h
    all_goals first | cases h | (unfold F11 at h; cases h)
  | succ n ih =>
    refine ufun_sound (T := ⟨(tbs11 fu n), pc11 fu⟩) (m := 1) (gout := [.gc, .fzC 0 2 ft0, .gc]) (k := 300) (tbs11_sound fu n ih) (fun fn body hf hb => ?_) (fun R args s K r h => ?_) (fun R args s K r h => ?_)
    · have hc : body = code11 := by
        have h1 : Try.prog.funcs[11]? = some Try.f11 := rfl
        rw [h1] at hf; cases hf
        have h2 : Try.f11.body = some code11 := rfl
        rw [h2] at hb; cases hb; rfl
      subst hc
      exact fun p told h b hb => by
        replace h : pc11 fu p = some told := h
        unfold pc11 at h
        split at h
        · rename_i hp
          cases h
          have := Nat.eq_of_beq_eq_true hp
          subst this
          rw [a11_250] at hb
          cases hb
          exact ghP_sound (s11_250 fu _)
        ·
          cases h

    · unfold t11 at h; split at h
      · rfl
      · cases h
    · unfold t11 at h; split at h
      case h_2 => cases h
      split at h
      case h_2 => cases h
      rename_i hq
      have hq := FT.sames_eq _ _ hq
      subst hq
      split at h
      case h_2 => cases h
      rename_i hq
      have hq := FT.sames_eq _ _ hq
      subst hq
      exact (e11 R K fu n _ _ _ _ _ _).symm.trans h

noncomputable def tb11 (fu : Nat) : FuncId → Option (Bool × ToldF) := fun f => match Nat.beq f 11 with
  | true => some (false, ghG [.fzP 3 [] ft0, .gc, .fzC 0 2 ft0, .gc] (t11 fu fu))
  | false => (tb22 fu) f
theorem tb11_sound (fu : Nat) : SoundF' Try.prog (tb11 fu) := by
  intro f own told h
  unfold tb11 at h
  split at h
  · rename_i hb
    cases h
    have := Nat.eq_of_beq_eq_true hb
    subst this
    exact ghG_sound (s11 fu fu)
  · exact (tb22_sound fu) f own told h

end Go.Proofs.Ytkefbcnibffekaa.V

/- Printed by ugen: daisychain/daisychainref11.Merge -/
namespace Go.Proofs.Ytkefbcnibffekaa.V
set_option maxRecDepth 100000
set_option maxHeartbeats 4000000


noncomputable def code21 : Code := match Try.f21.body with | some c => c | none => .skip
theorem a21_1018 : codeAt code21 1018 = some (.loop (loopBody (codeAt code21 1018))) := by kernel_rfl
noncomputable def F21_1018 {R : Type} (fu : Nat) (at_ : Int) (more : List (List D)) (l : Int) : Nat → Int → (List (List D)) → ((List (List D)) → Option R) → Option R
  | 0, _, _, _ => none
  | n + 1, k_, out, k0 => bif decide (k_ < ofN more.length) then bif decide (IntKind.i64.wrap (IntKind.i64.wrap (at_ - l) + k_) < ofN out.length) then bif within (IntKind.i64.wrap (IntKind.i64.wrap (at_ - l) + k_)) out.length then bif within k_ more.length then bif decide ((cell 0 (elem (IntKind.i64.wrap (IntKind.i64.wrap (at_ - l) + k_)).toNat out)).toInt = (cell 0 (elem k_.toNat more)).toInt) then (F21_1018 fu at_ more l n (IntKind.i64.wrap (k_ + 1)) out k0) else bif decide (IntKind.i64.wrap (IntKind.i64.wrap (at_ - l) + k_) < ofN out.length) then bif decide ((0 : Int) ≤ 0 ∧ 0 ≤ IntKind.i64.wrap (IntKind.i64.wrap (at_ - l) + k_)) && upTo (IntKind.i64.wrap (IntKind.i64.wrap (at_ - l) + k_)) out.length then bif fits (0 + (part out 0 (IntKind.i64.wrap (IntKind.i64.wrap (at_ - l) + k_)).toNat).length) 24 then bif within k_ more.length then bif fits ((part out 0 (IntKind.i64.wrap (IntKind.i64.wrap (at_ - l) + k_)).toNat).length + 1) 24 then (F21_1018 fu at_ more l n (IntKind.i64.wrap (k_ + 1)) (part out 0 (IntKind.i64.wrap (IntKind.i64.wrap (at_ - l) + k_)).toNat ++ [[D.int (cell 0 (elem k_.toNat more)).toInt, D.str (cell 1 (elem k_.toNat more)).toStr]]) k0) else none else none else none else none else bif within k_ more.length then bif fits (out.length + 1) 24 then (F21_1018 fu at_ more l n (IntKind.i64.wrap (k_ + 1)) (out ++ [[D.int (cell 0 (elem k_.toNat more)).toInt, D.str (cell 1 (elem k_.toNat more)).toStr]]) k0) else none else none else none else none else bif decide (IntKind.i64.wrap (IntKind.i64.wrap (at_ - l) + k_) < ofN out.length) then bif decide ((0 : Int) ≤ 0 ∧ 0 ≤ IntKind.i64.wrap (IntKind.i64.wrap (at_ - l) + k_)) && upTo (IntKind.i64.wrap (IntKind.i64.wrap (at_ - l) + k_)) out.length then bif fits (0 + (part out 0 (IntKind.i64.wrap (IntKind.i64.wrap (at_ - l) + k_)).toNat).length) 24 then bif within k_ more.length then bif fits ((part out 0 (IntKind.i64.wrap (IntKind.i64.wrap (at_ - l) + k_)).toNat).length + 1) 24 then (F21_1018 fu at_ more l n (IntKind.i64.wrap (k_ + 1)) (part out 0 (IntKind.i64.wrap (IntKind.i64.wrap (at_ - l) + k_)).toNat ++ [[D.int (cell 0 (elem k_.toNat more)).toInt, D.str (cell 1 (elem k_.toNat more)).toStr]]) k0) else none else none else none else none else bif within k_ more.length then bif fits (out.length + 1) 24 then (F21_1018 fu at_ more l n (IntKind.i64.wrap (k_ + 1)) (out ++ [[D.int (cell 0 (elem k_.toNat more)).toInt, D.str (cell 1 (elem k_.toNat more)).toStr]]) k0) else none else none else (k0 out)

noncomputable def t21_1018 (fu n : Nat) : ToldP := fun _ e s K => match e, s with
  | [.int .i64 at_, .fz zq0 more false, .ptr 0 0, .ptr 1 0, .int .i64 end_, .own 2, .int .i64 k_], [.obj [.int .i64 l, .int .i64 l1, .fz zq1 l2 false], .obj [.int .i64 x, .int .i64 x1, .nilslice], .row zq2 out] => (match FT.sames zq0 ft0 with | true => (match FT.sames zq1 ft0 with | true => (match FT.sames zq2 ft0 with | true => F21_1018 fu at_ more l n k_ out (fun o_ => K (.exit 0) (unpackM (bitsM 16 0x8910) [.ptr 0 0, .ptr 1 0, .int .i64 (end_), .own 2]) [.obj [.int .i64 (l), .int .i64 (l1), .fz ft0 (l2) false], .obj [.int .i64 (x), .int .i64 (x1), .nilslice], .row ft0 o_]) | false => none) | false => none) | false => none)
  | _, _ => none

noncomputable def pc21_1018 (fu : Nat) : Nat → Option ToldP := fun _ => none
theorem e21_1018 (fu n : Nat) (R : Type) (K : VExit → UEnv → USt → Option R) (at_ : Int) (more : List (List D)) (end_ : Int) (k_ : Int) (l : Int) (l1 : Int) (l2 : List (List D)) (x : Int) (x1 : Int) (out : List (List D)) :
    F21_1018 fu at_ more l (n + 1) k_ out (fun o_ => K (.exit 0) (unpackM (bitsM 16 0x8910) [.ptr 0 0, .ptr 1 0, .int .i64 (end_), .own 2]) [.obj [.int .i64 (l), .int .i64 (l1), .fz ft0 (l2) false], .obj [.int .i64 (x), .int .i64 (x1), .nilslice], .row ft0 o_]) = uexec Try.prog (tb11 fu) 300 (pc21_1018 fu) 2036 (loopBody (codeAt code21 1018)) (unpackM (bitsM 17 0x1891a) [.int .i64 at_, .fz ft0 more false, .ptr 0 0, .ptr 1 0, .int .i64 end_, .own 2, .int .i64 k_]) [.obj [.int .i64 l, .int .i64 l1, .fz ft0 l2 false], .obj [.int .i64 x, .int .i64 x1, .nilslice], .row ft0 out] (loopK 0 [.live (bitsM 17 0x1891a), .fzP 3 [] ft0, .ownP 15 [] ft0, .gc, .fzC 0 2 ft0, .gc] [.live (bitsM 16 0x8f10), .gc] (pkP (bitsM 17 0x1891a) (t21_1018 fu n)) K) := by kernel_rfl

theorem p21_1018 (fu : Nat) : SoundPc Try.prog 0 code21 (pc21_1018 fu) := SoundPc.none _ _ _
theorem s21_1018 (fu : Nat) : ∀ n, SoundP Try.prog 0 (.loop (loopBody (codeAt code21 1018))) (pkP (bitsM 17 0x1891a) (t21_1018 fu n)) := by
  refine loopP_sound (gin := [.live (bitsM 17 0x1891a), .fzP 3 [] ft0, .ownP 15 [] ft0, .gc, .fzC 0 2 ft0, .gc]) (gout := [.live (bitsM 16 0x8f10), .gc]) (k := 300) (tb11_sound fu) (p21_1018 fu) (by decide) a21_1018 (fun R e s K => ?_) (fun n R e s K r h => ?_)
  · unfold t21_1018; repeat' split
    all_goals rfl
  · unfold t21_1018 at h; split at h
    case h_2 => cases h
    split at h
    case h_2 => cases h
    rename_i hq
    have hq := FT.sames_eq _ _ hq
    subst hq
    split at h
    case h_2 => cases h
    rename_i hq
    have hq := FT.sames_eq _ _ hq
    subst hq
    split at h
    case h_2 => cases h
    rename_i hq
    have hq := FT.sames_eq _ _ hq
    subst hq
    exact (e21_1018 fu n R K _ _ _ _ _ _ _ _ _ _).symm.trans h


noncomputable def F21 {R : Type} (fu : Nat) (l : List D) (at_ : Int) (term : Int) (more : List (List D)) (k0 : (List D) → Int → Bool → Option R) : Option R :=
  bif decide (at_ < (cell 0 l).toInt) then bif decide (ofN more.length ≤ IntKind.i64.wrap ((cell 0 l).toInt - at_)) then (k0 l (IntKind.i64.wrap (at_ + ofN more.length)) true) else bif decide (0 ≤ IntKind.i64.wrap ((cell 0 l).toInt - at_) ∧ IntKind.i64.wrap ((cell 0 l).toInt - at_) ≤ ofN more.length) && upTo (ofN more.length) more.length then F25 fu [D.int (cell 0 l).toInt, D.int (cell 1 l).toInt, D.row (cell 2 l).toRows] (cell 0 l).toInt fun o_0 o_1 => bif !o_1 then (k0 l 0 false) else bif !decide (o_0 = (cell 1 l).toInt) then (k0 l 0 false) else bif fits (0 + (cell 2 l).toRows.length) 24 then F21_1018 fu (cell 0 l).toInt (part more (IntKind.i64.wrap ((cell 0 l).toInt - at_)).toNat (ofN more.length).toNat) (cell 0 l).toInt fu 0 (cell 2 l).toRows fun o_2 => (k0 [D.int ((cell 0 l).toInt), D.int ((cell 1 l).toInt), D.row o_2] (IntKind.i64.wrap (at_ + ofN more.length)) true) else none else none else F25 fu [D.int (cell 0 l).toInt, D.int (cell 1 l).toInt, D.row (cell 2 l).toRows] at_ fun o_3 o_4 => bif !o_4 then (k0 l 0 false) else bif !decide (o_3 = term) then (k0 l 0 false) else bif fits (0 + (cell 2 l).toRows.length) 24 then F21_1018 fu at_ more (cell 0 l).toInt fu 0 (cell 2 l).toRows fun o_5 => (k0 [D.int ((cell 0 l).toInt), D.int ((cell 1 l).toInt), D.row o_5] (IntKind.i64.wrap (at_ + ofN more.length)) true) else none

noncomputable def pc21 (fu : Nat) : Nat → Option ToldP := fun p => match Nat.beq p 1018 with | true => some (ghP 0 [.live (bitsM 17 0x1891a), .fzP 3 [] ft0, .ownP 15 [] ft0, .gc, .fzC 0 2 ft0, .gc] (pkP (bitsM 17 0x1891a) (t21_1018 fu fu))) | false => none
noncomputable def t21 (fu : Nat) : ToldF := fun _ args s K => match args, s with
  | [.agg [.int .i64 q, .int .i64 q1, .fz zq0 q2 false], .int .i64 at_, .int .i64 term, .fz zq1 more false], [] => (match FT.sames zq0 ft0 with | true => (match FT.sames zq1 ft0 with | true => F21 fu [D.int q, D.int q1, D.row q2] at_ term more (fun o_ o_1 o_2 => K (.tuple [.agg (ofDs 0 ft1 o_), .int .i64 o_1, .bool o_2]) []) | false => none) | false => none)
  | _, _ => none

theorem e21 (R : Type) (K : UV → USt → Option R) (fu : Nat) (q : Int) (q1 : Int) (q2 : List (List D)) (at_ : Int) (term : Int) (more : List (List D)) :
    F21 fu [D.int q, D.int q1, D.row q2] at_ term more (fun o_ o_1 o_2 => K (.tuple [.agg (ofDs 0 ft1 o_), .int .i64 o_1, .bool o_2]) []) = ufun Try.prog ⟨(tb11 fu), pc21 fu⟩ 300 21 [.agg [.int .i64 q, .int .i64 q1, .fz ft0 q2 false], .int .i64 at_, .int .i64 term, .fz ft0 more false] [] (funK 0 [.fzP 0 [0, 2] ft0, .gc] K) := by kernel_rfl

theorem s21 (fu : Nat) : Tells Try.prog 21 (t21 fu) := by
  refine ufun_sound (T := ⟨(tb11 fu), pc21 fu⟩) (m := 0) (gout := [.fzP 0 [0, 2] ft0, .gc]) (k := 300) (tb11_sound fu) (fun fn body hf hb => ?_) (fun R args s K r h => ?_) (fun R args s K r h => ?_)
  · have hc : body = code21 := by
      have h1 : Try.prog.funcs[21]? = some Try.f21 := rfl
      rw [h1] at hf; cases hf
      have h2 : Try.f21.body = some code21 := rfl
      rw [h2] at hb; cases hb; rfl
    subst hc
    exact fun p told h b hb => by
      replace h : pc21 fu p = some told := h
      unfold pc21 at h
      split at h
      · rename_i hp
        cases h
        have := Nat.eq_of_beq_eq_true hp
        subst this
        rw [a21_1018] at hb
        cases hb
        exact ghP_sound (s21_1018 fu _)
      ·
        cases h

  · unfold t21 at h; split at h
    · rfl
    · cases h
  · unfold t21 at h; split at h
    case h_2 => cases h
    split at h
    case h_2 => cases h
    rename_i hq
    have hq := FT.sames_eq _ _ hq
    subst hq
    split at h
    case h_2 => cases h
    rename_i hq
    have hq := FT.sames_eq _ _ hq
    subst hq
    exact (e21 R K fu _ _ _ _ _ _).symm.trans h

noncomputable def tb21 (fu : Nat) : FuncId → Option (Bool × ToldF) := fun f => match Nat.beq f 21 with
  | true => some (false, ghG [.fzP 0 [2] ft0, .fzP 3 [] ft0] (t21 fu))
  | false => (tb11 fu) f
theorem tb21_sound (fu : Nat) : SoundF' Try.prog (tb21 fu) := by
  intro f own told h
  unfold tb21 at h
  split at h
  · rename_i hb
    cases h
    have := Nat.eq_of_beq_eq_true hb
    subst this
    exact ghG_sound (s21 fu)
  · exact (tb11_sound fu) f own told h

end Go.Proofs.Ytkefbcnibffekaa.V

/- Printed by ugen: daisychain/daisychainlaw11.Of -/
namespace Go.Proofs.Ytkefbcnibffekaa.V
set_option maxRecDepth 100000
set_option maxHeartbeats 4000000


noncomputable def code10 : Code := match Try.f10.body with | some c => c | none => .skip
theorem a10_58 : codeAt code10 58 = some (.loop (loopBody (codeAt code10 58))) := by kernel_rfl
noncomputable def F10_58 {R : Type} (fu : Nat) (x : List (List D)) (x1 : Int) : Nat → Int → (List (List D)) → ((List (List D)) → Option R) → Option R
  | 0, _, _, _ => none
  | n + 1, x2, out, k0 => bif decide (x2 < x1) then bif within x2 x.length then bif fits (out.length + 1) 24 then (F10_58 fu x x1 n (IntKind.i64.wrap (x2 + 1)) (out ++ [[D.int (cell 0 (elem x2.toNat x)).toInt, D.str (cell 1 (elem x2.toNat x)).toStr]]) k0) else none else none else (k0 out)

noncomputable def t10_58 (fu n : Nat) : ToldP := fun _ e s K => match e, s with
  | [.own 0, .fz zq0 x false, .int .i64 x1, .int .i64 x2], [.row zq1 out] => (match FT.sames zq0 ft0 with | true => (match FT.sames zq1 ft0 with | true => F10_58 fu x x1 n x2 out (fun o_ => K (.exit 0) (unpackM (bitsM 4 0x8) [.own 0]) [.row ft0 o_]) | false => none) | false => none)
  | _, _ => none

noncomputable def pc10_58 (fu : Nat) : Nat → Option ToldP := fun _ => none
theorem e10_58 (fu n : Nat) (R : Type) (K : VExit → UEnv → USt → Option R) (x : List (List D)) (x1 : Int) (x2 : Int) (out : List (List D)) :
    F10_58 fu x x1 (n + 1) x2 out (fun o_ => K (.exit 0) (unpackM (bitsM 4 0x8) [.own 0]) [.row ft0 o_]) = uexec Try.prog (tb21 fu) 300 (pc10_58 fu) 116 (loopBody (codeAt code10 58)) (unpackM (bitsM 9 0x1c8) [.own 0, .fz ft0 x false, .int .i64 x1, .int .i64 x2]) [.row ft0 out] (loopK 0 [.live (bitsM 9 0x1c8), .ownP 3 [] ft0, .fzP 6 [] ft0, .gc] [.live (bitsM 4 0xc), .gc] (pkP (bitsM 9 0x1c8) (t10_58 fu n)) K) := by kernel_rfl

theorem p10_58 (fu : Nat) : SoundPc Try.prog 0 code10 (pc10_58 fu) := SoundPc.none _ _ _
theorem s10_58 (fu : Nat) : ∀ n, SoundP Try.prog 0 (.loop (loopBody (codeAt code10 58))) (pkP (bitsM 9 0x1c8) (t10_58 fu n)) := by
  refine loopP_sound (gin := [.live (bitsM 9 0x1c8), .ownP 3 [] ft0, .fzP 6 [] ft0, .gc]) (gout := [.live (bitsM 4 0xc), .gc]) (k := 300) (tb21_sound fu) (p10_58 fu) (by decide) a10_58 (fun R e s K => ?_) (fun n R e s K r h => ?_)
  · unfold t10_58; repeat' split
    all_goals rfl
  · unfold t10_58 at h; split at h
    case h_2 => cases h
    split at h
    case h_2 => cases h
    rename_i hq
    have hq := FT.sames_eq _ _ hq
    subst hq
    split at h
    case h_2 => cases h
    rename_i hq
    have hq := FT.sames_eq _ _ hq
    subst hq
    exact (e10_58 fu n R K _ _ _ _).symm.trans h


noncomputable def F10 {R : Type} (fu : Nat) (l : List (List D)) (k0 : (List (List D)) → Option R) : Option R :=
  F10_58 fu l (ofN l.length) fu 0 [] fun o_0 => (k0 o_0)

noncomputable def pc10 (fu : Nat) : Nat → Option ToldP := fun p => match Nat.beq p 58 with | true => some (ghP 0 [.live (bitsM 9 0x1c8), .ownP 3 [] ft0, .fzP 6 [] ft0, .gc] (pkP (bitsM 9 0x1c8) (t10_58 fu fu))) | false => none
noncomputable def t10 (fu : Nat) : ToldF := fun _ args s K => match args, s with
  | [.fz zq0 l false], [] => (match FT.sames zq0 ft0 with | true => F10 fu l (fun o_ => K (.own 0) [.row ft0 o_]) | false => none)
  | _, _ => none

theorem e10 (R : Type) (K : UV → USt → Option R) (fu : Nat) (l : List (List D)) :
    F10 fu l (fun o_ => K (.own 0) [.row ft0 o_]) = ufun Try.prog ⟨(tb21 fu), pc10 fu⟩ 300 10 [.fz ft0 l false] [] (funK 0 [.gc] K) := by kernel_rfl

theorem s10 (fu : Nat) : Tells Try.prog 10 (t10 fu) := by
  refine ufun_sound (T := ⟨(tb21 fu), pc10 fu⟩) (m := 0) (gout := [.gc]) (k := 300) (tb21_sound fu) (fun fn body hf hb => ?_) (fun R args s K r h => ?_) (fun R args s K r h => ?_)
  · have hc : body = code10 := by
      have h1 : Try.prog.funcs[10]? = some Try.f10 := rfl
      rw [h1] at hf; cases hf
      have h2 : Try.f10.body = some code10 := rfl
      rw [h2] at hb; cases hb; rfl
    subst hc
    exact fun p told h b hb => by
      replace h : pc10 fu p = some told := h
      unfold pc10 at h
      split at h
      · rename_i hp
        cases h
        have := Nat.eq_of_beq_eq_true hp
        subst this
        rw [a10_58] at hb
        cases hb
        exact ghP_sound (s10_58 fu _)
      ·
        cases h

  · unfold t10 at h; split at h
    · rfl
    · cases h
  · unfold t10 at h; split at h
    case h_2 => cases h
    split at h
    case h_2 => cases h
    rename_i hq
    have hq := FT.sames_eq _ _ hq
    subst hq
    exact (e10 R K fu _).symm.trans h

noncomputable def tb10 (fu : Nat) : FuncId → Option (Bool × ToldF) := fun f => match Nat.beq f 10 with
  | true => some (false, ghG [.fzP 0 [] ft0] (t10 fu))
  | false => (tb21 fu) f
theorem tb10_sound (fu : Nat) : SoundF' Try.prog (tb10 fu) := by
  intro f own told h
  unfold tb10 at h
  split at h
  · rename_i hb
    cases h
    have := Nat.eq_of_beq_eq_true hb
    subst this
    exact ghG_sound (s10 fu)
  · exact (tb21_sound fu) f own told h

end Go.Proofs.Ytkefbcnibffekaa.V

/- Printed by ugen: (*daisychain/entry.Log).From -/
namespace Go.Proofs.Ytkefbcnibffekaa.V
set_option maxRecDepth 100000
set_option maxHeartbeats 4000000


noncomputable def code16 : Code := match Try.f16.body with | some c => c | none => .skip

noncomputable def F16 {R : Type} (fu : Nat) (k_ : Int) (most : Int) (l_base : Int) (l_term : Int) (l_l : List (List D)) (k0 : (List (List D)) → Option R) : Option R :=
  F15 fu l_base l_term l_l fun o_0 => bif decide (o_0 < k_) then (k0 []) else bif decide (most < 1) then (k0 []) else bif decide ((0 ≤ if 0 > IntKind.i64.wrap (IntKind.i64.wrap (k_ - l_base) - 1) then 0 else IntKind.i64.wrap (IntKind.i64.wrap (k_ - l_base) - 1)) ∧ (if 0 > IntKind.i64.wrap (IntKind.i64.wrap (k_ - l_base) - 1) then 0 else IntKind.i64.wrap (IntKind.i64.wrap (k_ - l_base) - 1)) ≤ ofN l_l.length) && upTo (ofN l_l.length) l_l.length then bif decide (k_ ≤ l_base) then bif decide ((0 : Int) ≤ 0 ∧ 0 ≤ if ofN l_l.length < most then ofN l_l.length else most) && upTo (if ofN l_l.length < most then ofN l_l.length else most) l_l.length then bif fits (part l_l 0 (if ofN l_l.length < most then ofN l_l.length else most).toNat).length 24 then (k0 (part l_l 0 (if ofN l_l.length < most then ofN l_l.length else most).toNat)) else none else none else bif decide ((0 : Int) ≤ 0 ∧ 0 ≤ if ofN (part l_l (if 0 > IntKind.i64.wrap (IntKind.i64.wrap (k_ - l_base) - 1) then 0 else IntKind.i64.wrap (IntKind.i64.wrap (k_ - l_base) - 1)).toNat (ofN l_l.length).toNat).length < most then ofN (part l_l (if 0 > IntKind.i64.wrap (IntKind.i64.wrap (k_ - l_base) - 1) then 0 else IntKind.i64.wrap (IntKind.i64.wrap (k_ - l_base) - 1)).toNat (ofN l_l.length).toNat).length else most) && upTo (if ofN (part l_l (if 0 > IntKind.i64.wrap (IntKind.i64.wrap (k_ - l_base) - 1) then 0 else IntKind.i64.wrap (IntKind.i64.wrap (k_ - l_base) - 1)).toNat (ofN l_l.length).toNat).length < most then ofN (part l_l (if 0 > IntKind.i64.wrap (IntKind.i64.wrap (k_ - l_base) - 1) then 0 else IntKind.i64.wrap (IntKind.i64.wrap (k_ - l_base) - 1)).toNat (ofN l_l.length).toNat).length else most) (part l_l (if 0 > IntKind.i64.wrap (IntKind.i64.wrap (k_ - l_base) - 1) then 0 else IntKind.i64.wrap (IntKind.i64.wrap (k_ - l_base) - 1)).toNat (ofN l_l.length).toNat).length then bif fits (part (part l_l (if 0 > IntKind.i64.wrap (IntKind.i64.wrap (k_ - l_base) - 1) then 0 else IntKind.i64.wrap (IntKind.i64.wrap (k_ - l_base) - 1)).toNat (ofN l_l.length).toNat) 0 (if ofN (part l_l (if 0 > IntKind.i64.wrap (IntKind.i64.wrap (k_ - l_base) - 1) then 0 else IntKind.i64.wrap (IntKind.i64.wrap (k_ - l_base) - 1)).toNat (ofN l_l.length).toNat).length < most then ofN (part l_l (if 0 > IntKind.i64.wrap (IntKind.i64.wrap (k_ - l_base) - 1) then 0 else IntKind.i64.wrap (IntKind.i64.wrap (k_ - l_base) - 1)).toNat (ofN l_l.length).toNat).length else most).toNat).length 24 then (k0 (part (part l_l (if 0 > IntKind.i64.wrap (IntKind.i64.wrap (k_ - l_base) - 1) then 0 else IntKind.i64.wrap (IntKind.i64.wrap (k_ - l_base) - 1)).toNat (ofN l_l.length).toNat) 0 (if ofN (part l_l (if 0 > IntKind.i64.wrap (IntKind.i64.wrap (k_ - l_base) - 1) then 0 else IntKind.i64.wrap (IntKind.i64.wrap (k_ - l_base) - 1)).toNat (ofN l_l.length).toNat).length < most then ofN (part l_l (if 0 > IntKind.i64.wrap (IntKind.i64.wrap (k_ - l_base) - 1) then 0 else IntKind.i64.wrap (IntKind.i64.wrap (k_ - l_base) - 1)).toNat (ofN l_l.length).toNat).length else most).toNat)) else none else none else none

noncomputable def pc16 (fu : Nat) : Nat → Option ToldP := fun _ => none
noncomputable def t16 (fu : Nat) : ToldF := fun _ args s K => match args, s with
  | [.ptr 0 0, .int .i64 k_, .int .i64 most], [.obj [.int .i64 l_base, .int .i64 l_term, .fz zq0 l_l false]] => (match FT.sames zq0 ft0 with | true => F16 fu k_ most l_base l_term l_l (fun o_ => K (.own 1) [.obj [.int .i64 (l_base), .int .i64 (l_term), .fz ft0 (l_l) false], .row ft0 o_]) | false => none)
  | _, _ => none

theorem e16 (R : Type) (K : UV → USt → Option R) (fu : Nat) (k_ : Int) (most : Int) (l_base : Int) (l_term : Int) (l_l : List (List D)) :
    F16 fu k_ most l_base l_term l_l (fun o_ => K (.own 1) [.obj [.int .i64 (l_base), .int .i64 (l_term), .fz ft0 (l_l) false], .row ft0 o_]) = ufun Try.prog ⟨(tb10 fu), pc16 fu⟩ 300 16 [.ptr 0 0, .int .i64 k_, .int .i64 most] [.obj [.int .i64 l_base, .int .i64 l_term, .fz ft0 l_l false]] (funK 1 [.ownP 0 [] ft0, .gc, .fzC 0 2 ft0, .gc] K) := by kernel_rfl

theorem s16 (fu : Nat) : Tells Try.prog 16 (t16 fu) := by
  refine ufun_sound (T := ⟨(tb10 fu), pc16 fu⟩) (m := 1) (gout := [.ownP 0 [] ft0, .gc, .fzC 0 2 ft0, .gc]) (k := 300) (tb10_sound fu) (fun fn body hf hb => ?_) (fun R args s K r h => ?_) (fun R args s K r h => ?_)
  · have hc : body = code16 := by
      have h1 : Try.prog.funcs[16]? = some Try.f16 := rfl
      rw [h1] at hf; cases hf
      have h2 : Try.f16.body = some code16 := rfl
      rw [h2] at hb; cases hb; rfl
    subst hc
    exact SoundPc.none _ _ _
  · unfold t16 at h; split at h
    · rfl
    · cases h
  · unfold t16 at h; split at h
    case h_2 => cases h
    split at h
    case h_2 => cases h
    rename_i hq
    have hq := FT.sames_eq _ _ hq
    subst hq
    exact (e16 R K fu _ _ _ _ _).symm.trans h

noncomputable def tb16 (fu : Nat) : FuncId → Option (Bool × ToldF) := fun f => match Nat.beq f 16 with
  | true => some (false, ghG [.gc, .fzC 0 2 ft0, .gc] (t16 fu))
  | false => (tb10 fu) f
theorem tb16_sound (fu : Nat) : SoundF' Try.prog (tb16 fu) := by
  intro f own told h
  unfold tb16 at h
  split at h
  · rename_i hb
    cases h
    have := Nat.eq_of_beq_eq_true hb
    subst this
    exact ghG_sound (s16 fu)
  · exact (tb10_sound fu) f own told h

end Go.Proofs.Ytkefbcnibffekaa.V

/- Printed by ugen: daisychain/daisychainlaw11.Same -/
namespace Go.Proofs.Ytkefbcnibffekaa.V
set_option maxRecDepth 100000
set_option maxHeartbeats 4000000


noncomputable def code18 : Code := match Try.f18.body with | some c => c | none => .skip
theorem a18_58 : codeAt code18 58 = some (.loop (loopBody (codeAt code18 58))) := by kernel_rfl
noncomputable def F18_58 {R : Type} (fu : Nat) (l : Int) (l1 : Int) (l2 : List (List D)) (r : Int) (r1 : Int) (r2 : List (List D)) : Nat → Int → (Option R) → (Option R) → Option R
  | 0, _, _, _ => none
  | n + 1, k_, k0, k1 => F20 fu [D.int r, D.int r1, D.row r2] fun o_0 => bif decide (k_ ≤ IntKind.i64.wrap (o_0 + 1)) then F24 fu k_ l l1 l2 fun o_1 o_2 => F25 fu [D.int r, D.int r1, D.row r2] k_ fun o_3 o_4 => F17 fu k_ l l1 l2 fun o_5 o_6 => bif !decide (o_1 = o_3) then (k0) else bif !o_2 == o_4 then (k0) else bif o_4 then bif !o_6 == decide (r < k_) then (k0) else bif o_6 then bif within (IntKind.i64.wrap (IntKind.i64.wrap (k_ - r) - 1)) r2.length then bif !(decide ((cell 0 o_5).toInt = (cell 0 (elem (IntKind.i64.wrap (IntKind.i64.wrap (k_ - r) - 1)).toNat r2)).toInt) && (strEq (cell 1 o_5).toStr (cell 1 (elem (IntKind.i64.wrap (IntKind.i64.wrap (k_ - r) - 1)).toNat r2)).toStr && true)) then (k0) else bif !o_6 then bif !(decide ((cell 0 o_5).toInt = 0) && (strEq (cell 1 o_5).toStr (ByteArray.mk #[]) && true)) then (k0) else (F18_58 fu l l1 l2 r r1 r2 n (IntKind.i64.wrap (k_ + 1)) k0 k1) else (F18_58 fu l l1 l2 r r1 r2 n (IntKind.i64.wrap (k_ + 1)) k0 k1) else none else bif !o_6 then bif !(decide ((cell 0 o_5).toInt = 0) && (strEq (cell 1 o_5).toStr (ByteArray.mk #[]) && true)) then (k0) else (F18_58 fu l l1 l2 r r1 r2 n (IntKind.i64.wrap (k_ + 1)) k0 k1) else (F18_58 fu l l1 l2 r r1 r2 n (IntKind.i64.wrap (k_ + 1)) k0 k1) else bif !o_6 == false then (k0) else bif o_6 then bif within (IntKind.i64.wrap (IntKind.i64.wrap (k_ - r) - 1)) r2.length then bif !(decide ((cell 0 o_5).toInt = (cell 0 (elem (IntKind.i64.wrap (IntKind.i64.wrap (k_ - r) - 1)).toNat r2)).toInt) && (strEq (cell 1 o_5).toStr (cell 1 (elem (IntKind.i64.wrap (IntKind.i64.wrap (k_ - r) - 1)).toNat r2)).toStr && true)) then (k0) else bif !o_6 then bif !(decide ((cell 0 o_5).toInt = 0) && (strEq (cell 1 o_5).toStr (ByteArray.mk #[]) && true)) then (k0) else (F18_58 fu l l1 l2 r r1 r2 n (IntKind.i64.wrap (k_ + 1)) k0 k1) else (F18_58 fu l l1 l2 r r1 r2 n (IntKind.i64.wrap (k_ + 1)) k0 k1) else none else bif !o_6 then bif !(decide ((cell 0 o_5).toInt = 0) && (strEq (cell 1 o_5).toStr (ByteArray.mk #[]) && true)) then (k0) else (F18_58 fu l l1 l2 r r1 r2 n (IntKind.i64.wrap (k_ + 1)) k0 k1) else (F18_58 fu l l1 l2 r r1 r2 n (IntKind.i64.wrap (k_ + 1)) k0 k1) else (k1)

noncomputable def t18_58 (fu n : Nat) : ToldP := fun _ e s K => match e, s with
  | [.ptr 0 0, .ptr 1 0, .int .i64 k_], [.obj [.int .i64 l, .int .i64 l1, .fz zq0 l2 false], .obj [.int .i64 r, .int .i64 r1, .fz zq1 r2 false]] => (match FT.sames zq0 ft0 with | true => (match FT.sames zq1 ft0 with | true => F18_58 fu l l1 l2 r r1 r2 n k_ (K .ret (unpackM (bitsM 5 0x10) [.bool (false)]) [.obj [.int .i64 (l), .int .i64 (l1), .fz ft0 (l2) false]]) (K (.exit 0) (unpackM (bitsM 5 0x0) []) [.obj [.int .i64 (l), .int .i64 (l1), .fz ft0 (l2) false]]) | false => none) | false => none)
  | _, _ => none

noncomputable def pc18_58 (fu : Nat) : Nat → Option ToldP := fun _ => none
theorem e18_58 (fu n : Nat) (R : Type) (K : VExit → UEnv → USt → Option R) (k_ : Int) (l : Int) (l1 : Int) (l2 : List (List D)) (r : Int) (r1 : Int) (r2 : List (List D)) :
    F18_58 fu l l1 l2 r r1 r2 (n + 1) k_ (K .ret (unpackM (bitsM 5 0x10) [.bool (false)]) [.obj [.int .i64 (l), .int .i64 (l1), .fz ft0 (l2) false]]) (K (.exit 0) (unpackM (bitsM 5 0x0) []) [.obj [.int .i64 (l), .int .i64 (l1), .fz ft0 (l2) false]]) = uexec Try.prog (tb16 fu) 300 (pc18_58 fu) 116 (loopBody (codeAt code18 58)) (unpackM (bitsM 6 0x29) [.ptr 0 0, .ptr 1 0, .int .i64 k_]) [.obj [.int .i64 l, .int .i64 l1, .fz ft0 l2 false], .obj [.int .i64 r, .int .i64 r1, .fz ft0 r2 false]] (loopK 1 [.live (bitsM 6 0x29), .gc, .fzC 1 2 ft0, .gc] [.live (bitsM 5 0x10), .gc] (pkP (bitsM 6 0x29) (t18_58 fu n)) K) := by kernel_rfl

theorem p18_58 (fu : Nat) : SoundPc Try.prog 1 code18 (pc18_58 fu) := SoundPc.none _ _ _
theorem s18_58 (fu : Nat) : ∀ n, SoundP Try.prog 1 (.loop (loopBody (codeAt code18 58))) (pkP (bitsM 6 0x29) (t18_58 fu n)) := by
  refine loopP_sound (gin := [.live (bitsM 6 0x29), .gc, .fzC 1 2 ft0, .gc]) (gout := [.live (bitsM 5 0x10), .gc]) (k := 300) (tb16_sound fu) (p18_58 fu) (by decide) a18_58 (fun R e s K => ?_) (fun n R e s K r h => ?_)
  · unfold t18_58; repeat' split
    all_goals rfl
  · unfold t18_58 at h; split at h
    case h_2 => cases h
    split at h
    case h_2 => cases h
    rename_i hq
    have hq := FT.sames_eq _ _ hq
    subst hq
    split at h
    case h_2 => cases h
    rename_i hq
    have hq := FT.sames_eq _ _ hq
    subst hq
    exact (e18_58 fu n R K _ _ _ _ _ _ _).symm.trans h


noncomputable def F18 {R : Type} (fu : Nat) (r : List D) (l_base : Int) (l_term : Int) (l_l : List (List D)) (k0 : Bool → Option R) : Option R :=
  F12 fu l_base l_term l_l (bif !decide (l_base = (cell 0 r).toInt) then (k0 false) else F15 fu l_base l_term l_l fun o_0 => F20 fu [D.int (cell 0 r).toInt, D.int (cell 1 r).toInt, D.row (cell 2 r).toRows] fun o_1 => bif !decide (o_0 = o_1) then (k0 false) else F18_58 fu l_base l_term l_l (cell 0 r).toInt (cell 1 r).toInt (cell 2 r).toRows fu (IntKind.i64.wrap ((cell 0 r).toInt - 1)) ((k0 false)) ((k0 true)))

noncomputable def pc18 (fu : Nat) : Nat → Option ToldP := fun p => match Nat.beq p 58 with | true => some (ghP 1 [.live (bitsM 6 0x29), .gc, .fzC 1 2 ft0, .gc] (pkP (bitsM 6 0x29) (t18_58 fu fu))) | false => none
noncomputable def t18 (fu : Nat) : ToldF := fun _ args s K => match args, s with
  | [.ptr 0 0, .agg [.int .i64 q, .int .i64 q1, .fz zq0 q2 false]], [.obj [.int .i64 l_base, .int .i64 l_term, .fz zq1 l_l false]] => (match FT.sames zq0 ft0 with | true => (match FT.sames zq1 ft0 with | true => F18 fu [D.int q, D.int q1, D.row q2] l_base l_term l_l (fun o_ => K (.bool o_) [.obj [.int .i64 (l_base), .int .i64 (l_term), .fz ft0 (l_l) false]]) | false => none) | false => none)
  | _, _ => none

theorem e18 (R : Type) (K : UV → USt → Option R) (fu : Nat) (q : Int) (q1 : Int) (q2 : List (List D)) (l_base : Int) (l_term : Int) (l_l : List (List D)) :
    F18 fu [D.int q, D.int q1, D.row q2] l_base l_term l_l (fun o_ => K (.bool o_) [.obj [.int .i64 (l_base), .int .i64 (l_term), .fz ft0 (l_l) false]]) = ufun Try.prog ⟨(tb16 fu), pc18 fu⟩ 300 18 [.ptr 0 0, .agg [.int .i64 q, .int .i64 q1, .fz ft0 q2 false]] [.obj [.int .i64 l_base, .int .i64 l_term, .fz ft0 l_l false]] (funK 1 [.gc, .fzC 0 2 ft0, .gc] K) := by kernel_rfl

theorem s18 (fu : Nat) : Tells Try.prog 18 (t18 fu) := by
  refine ufun_sound (T := ⟨(tb16 fu), pc18 fu⟩) (m := 1) (gout := [.gc, .fzC 0 2 ft0, .gc]) (k := 300) (tb16_sound fu) (fun fn body hf hb => ?_) (fun R args s K r h => ?_) (fun R args s K r h => ?_)
  · have hc : body = code18 := by
      have h1 : Try.prog.funcs[18]? = some Try.f18 := rfl
      rw [h1] at hf; cases hf
      have h2 : Try.f18.body = some code18 := rfl
      rw [h2] at hb; cases hb; rfl
    subst hc
    exact fun p told h b hb => by
      replace h : pc18 fu p = some told := h
      unfold pc18 at h
      split at h
      · rename_i hp
        cases h
        have := Nat.eq_of_beq_eq_true hp
        subst this
        rw [a18_58] at hb
        cases hb
        exact ghP_sound (s18_58 fu _)
      ·
        cases h

  · unfold t18 at h; split at h
    · rfl
    · cases h
  · unfold t18 at h; split at h
    case h_2 => cases h
    split at h
    case h_2 => cases h
    rename_i hq
    have hq := FT.sames_eq _ _ hq
    subst hq
    split at h
    case h_2 => cases h
    rename_i hq
    have hq := FT.sames_eq _ _ hq
    subst hq
    exact (e18 R K fu _ _ _ _ _ _).symm.trans h

noncomputable def tb18 (fu : Nat) : FuncId → Option (Bool × ToldF) := fun f => match Nat.beq f 18 with
  | true => some (false, ghG [.fzP 1 [2] ft0, .gc, .fzC 0 2 ft0, .gc] (t18 fu))
  | false => (tb16 fu) f
theorem tb18_sound (fu : Nat) : SoundF' Try.prog (tb18 fu) := by
  intro f own told h
  unfold tb18 at h
  split at h
  · rename_i hb
    cases h
    have := Nat.eq_of_beq_eq_true hb
    subst this
    exact ghG_sound (s18 fu)
  · exact (tb16_sound fu) f own told h

end Go.Proofs.Ytkefbcnibffekaa.V

/- Printed by ugen: daisychain/daisychainlaw11.few -/
namespace Go.Proofs.Ytkefbcnibffekaa.V
set_option maxRecDepth 100000
set_option maxHeartbeats 4000000

abbrev ft2 : List FT := [FT.int IntKind.i64, FT.int IntKind.i64, FT.int IntKind.i64, FT.row 24 [FT.int IntKind.i64, FT.str]]

noncomputable def code4 : Code := match Try.f4.body with | some c => c | none => .skip
theorem a4_58 : codeAt code4 58 = some (.loop (loopBody (codeAt code4 58))) := by kernel_rfl
noncomputable def F4_58 {R : Type} (fu : Nat) (l : List (List D)) : Nat → Int → Int → (Int → Option R) → (Int → Option R) → Option R
  | 0, _, _, _, _ => none
  | n + 1, n_, k_, k0, k1 => bif decide (k_ < ofN l.length) then bif decide (k_ ≤ 60) then bif within k_ l.length then bif within k_ l.length then bif decide ((cell 1 (elem k_.toNat l)).toInt < -1099511627776) then (k0 (IntKind.i64.wrap (n_ + ofN (cell 3 (elem k_.toNat l)).toRows.length))) else bif within k_ l.length then bif decide (1099511627776 < (cell 1 (elem k_.toNat l)).toInt) then (k0 (IntKind.i64.wrap (n_ + ofN (cell 3 (elem k_.toNat l)).toRows.length))) else (F4_58 fu l n (IntKind.i64.wrap (n_ + ofN (cell 3 (elem k_.toNat l)).toRows.length)) (IntKind.i64.wrap (k_ + 1)) k0 k1) else none else none else none else (k1 n_) else (k1 n_)

noncomputable def t4_58 (fu n : Nat) : ToldP := fun _ e s K => match e, s with
  | [.fz zq0 l false, .int .i64 n_, .int .i64 k_], [] => (match FT.sames zq0 ft2 with | true => F4_58 fu l n n_ k_ (fun o_ => K .ret (unpackM (bitsM 4 0xd) [.fz ft2 (l) false, .bool (false), .int .i64 o_]) []) (fun o_ => K (.exit 0) (unpackM (bitsM 4 0x9) [.fz ft2 (l) false, .int .i64 o_]) []) | false => none)
  | _, _ => none

noncomputable def pc4_58 (fu : Nat) : Nat → Option ToldP := fun _ => none
theorem e4_58 (fu n : Nat) (R : Type) (K : VExit → UEnv → USt → Option R) (l : List (List D)) (n_ : Int) (k_ : Int) :
    F4_58 fu l (n + 1) n_ k_ (fun o_ => K .ret (unpackM (bitsM 4 0xd) [.fz ft2 (l) false, .bool (false), .int .i64 o_]) []) (fun o_ => K (.exit 0) (unpackM (bitsM 4 0x9) [.fz ft2 (l) false, .int .i64 o_]) []) = uexec Try.prog (tb18 fu) 300 (pc4_58 fu) 116 (loopBody (codeAt code4 58)) (unpackM (bitsM 5 0x19) [.fz ft2 l false, .int .i64 n_, .int .i64 k_]) [] (loopK 0 [.live (bitsM 5 0x19), .fzP 0 [] ft2, .gc] [.live (bitsM 4 0xd), .gc] (pkP (bitsM 5 0x19) (t4_58 fu n)) K) := by kernel_rfl

theorem p4_58 (fu : Nat) : SoundPc Try.prog 0 code4 (pc4_58 fu) := SoundPc.none _ _ _
theorem s4_58 (fu : Nat) : ∀ n, SoundP Try.prog 0 (.loop (loopBody (codeAt code4 58))) (pkP (bitsM 5 0x19) (t4_58 fu n)) := by
  refine loopP_sound (gin := [.live (bitsM 5 0x19), .fzP 0 [] ft2, .gc]) (gout := [.live (bitsM 4 0xd), .gc]) (k := 300) (tb18_sound fu) (p4_58 fu) (by decide) a4_58 (fun R e s K => ?_) (fun n R e s K r h => ?_)
  · unfold t4_58; repeat' split
    all_goals rfl
  · unfold t4_58 at h; split at h
    case h_2 => cases h
    split at h
    case h_2 => cases h
    rename_i hq
    have hq := FT.sames_eq _ _ hq
    subst hq
    exact (e4_58 fu n R K _ _ _).symm.trans h


noncomputable def F4 {R : Type} (fu : Nat) (l : List (List D)) (k0 : Bool → Option R) : Option R :=
  F4_58 fu l fu 0 0 (fun o_0 => (k0 false)) fun o_1 => bif decide (ofN l.length ≤ 60) then (k0 (decide (o_1 ≤ 400))) else (k0 false)

noncomputable def pc4 (fu : Nat) : Nat → Option ToldP := fun p => match Nat.beq p 58 with | true => some (ghP 0 [.live (bitsM 5 0x19), .fzP 0 [] ft2, .gc] (pkP (bitsM 5 0x19) (t4_58 fu fu))) | false => none
noncomputable def t4 (fu : Nat) : ToldF := fun _ args s K => match args, s with
  | [.fz zq0 l false], [] => (match FT.sames zq0 ft2 with | true => F4 fu l (fun o_ => K (.bool o_) []) | false => none)
  | _, _ => none

theorem e4 (R : Type) (K : UV → USt → Option R) (fu : Nat) (l : List (List D)) :
    F4 fu l (fun o_ => K (.bool o_) []) = ufun Try.prog ⟨(tb18 fu), pc4 fu⟩ 300 4 [.fz ft2 l false] [] (funK 0 [.gc] K) := by kernel_rfl

theorem s4 (fu : Nat) : Tells Try.prog 4 (t4 fu) := by
  refine ufun_sound (T := ⟨(tb18 fu), pc4 fu⟩) (m := 0) (gout := [.gc]) (k := 300) (tb18_sound fu) (fun fn body hf hb => ?_) (fun R args s K r h => ?_) (fun R args s K r h => ?_)
  · have hc : body = code4 := by
      have h1 : Try.prog.funcs[4]? = some Try.f4 := rfl
      rw [h1] at hf; cases hf
      have h2 : Try.f4.body = some code4 := rfl
      rw [h2] at hb; cases hb; rfl
    subst hc
    exact fun p told h b hb => by
      replace h : pc4 fu p = some told := h
      unfold pc4 at h
      split at h
      · rename_i hp
        cases h
        have := Nat.eq_of_beq_eq_true hp
        subst this
        rw [a4_58] at hb
        cases hb
        exact ghP_sound (s4_58 fu _)
      ·
        cases h

  · unfold t4 at h; split at h
    · rfl
    · cases h
  · unfold t4 at h; split at h
    case h_2 => cases h
    split at h
    case h_2 => cases h
    rename_i hq
    have hq := FT.sames_eq _ _ hq
    subst hq
    exact (e4 R K fu _).symm.trans h

noncomputable def tb4 (fu : Nat) : FuncId → Option (Bool × ToldF) := fun f => match Nat.beq f 4 with
  | true => some (false, ghG [.fzP 0 [] ft2] (t4 fu))
  | false => (tb18 fu) f
theorem tb4_sound (fu : Nat) : SoundF' Try.prog (tb4 fu) := by
  intro f own told h
  unfold tb4 at h
  split at h
  · rename_i hb
    cases h
    have := Nat.eq_of_beq_eq_true hb
    subst this
    exact ghG_sound (s4 fu)
  · exact (tb18_sound fu) f own told h

end Go.Proofs.Ytkefbcnibffekaa.V

/- Printed by ugen: daisychain/daisychainlaw11.awake -/
namespace Go.Proofs.Ytkefbcnibffekaa.V
set_option maxRecDepth 100000
set_option maxHeartbeats 4000000


noncomputable def code5 : Code := match Try.f5.body with | some c => c | none => .skip

noncomputable def F5 {R : Type} (fu : Nat) (k0 : Option R) : Option R :=
  (k0)

noncomputable def pc5 (fu : Nat) : Nat → Option ToldP := fun _ => none
noncomputable def t5 (fu : Nat) : ToldF := fun _ args s K => match args, s with
  | [], [] => F5 fu  (K (.bool (true)) [])
  | _, _ => none

theorem e5 (R : Type) (K : UV → USt → Option R) (fu : Nat) :
    F5 fu  (K (.bool (true)) []) = ufun Try.prog ⟨(tb23 fu), pc5 fu⟩ 300 5 [] [] (funK 0 [.gc] K) := by kernel_rfl

theorem s5 (fu : Nat) : Tells Try.prog 5 (t5 fu) := by
  refine ufun_sound (T := ⟨(tb23 fu), pc5 fu⟩) (m := 0) (gout := [.gc]) (k := 300) (tb23_sound fu) (fun fn body hf hb => ?_) (fun R args s K r h => ?_) (fun R args s K r h => ?_)
  · have hc : body = code5 := by
      have h1 : Try.prog.funcs[5]? = some Try.f5 := rfl
      rw [h1] at hf; cases hf
      have h2 : Try.f5.body = some code5 := rfl
      rw [h2] at hb; cases hb; rfl
    subst hc
    exact SoundPc.none _ _ _
  · unfold t5 at h; split at h
    · rfl
    · cases h
  · unfold t5 at h; split at h
    case h_2 => cases h
    exact (e5 R K fu).symm.trans h

noncomputable def tb5 (fu : Nat) : FuncId → Option (Bool × ToldF) := fun f => match Nat.beq f 5 with
  | true => some (false, ghG [] (t5 fu))
  | false => (tb4 fu) f
theorem tb5_sound (fu : Nat) : SoundF' Try.prog (tb5 fu) := by
  intro f own told h
  unfold tb5 at h
  split at h
  · rename_i hb
    cases h
    have := Nat.eq_of_beq_eq_true hb
    subst this
    exact ghG_sound (s5 fu)
  · exact (tb4_sound fu) f own told h

end Go.Proofs.Ytkefbcnibffekaa.V

/- Printed by ugen: daisychain/daisychainlaw11.does -/
namespace Go.Proofs.Ytkefbcnibffekaa.V
set_option maxRecDepth 100000
set_option maxHeartbeats 4000000


noncomputable def code8 : Code := match Try.f8.body with | some c => c | none => .skip
theorem a8_426 : codeAt code8 426 = some (.loop (loopBody (codeAt code8 426))) := by kernel_rfl
noncomputable def F8_426 {R : Type} (fu : Nat) (x : List (List D)) (x1 : Int) (l : Int) (l1 : Int) (r : Int) (r1 : Int) : Nat → Int → (List (List D)) → (List (List D)) → ((List (List D)) → (List (List D)) → Option R) → ((List (List D)) → (List (List D)) → Option R) → Option R
  | 0, _, _, _, _, _ => none
  | n + 1, x2, l2, r2, k0, k1 => bif decide (x2 < x1) then bif within x2 x.length then bif fits (0 + r2.length) 24 then bif fits (r2.length + 1) 24 then F13 fu [D.int (cell 0 (elem x2.toNat x)).toInt, D.str (cell 1 (elem x2.toNat x)).toStr] l l1 l2 fun o_0 o_1 => F20 fu [D.int r, D.int r1, D.row (r2 ++ [[D.int (cell 0 (elem x2.toNat x)).toInt, D.str (cell 1 (elem x2.toNat x)).toStr]])] fun o_2 => bif !decide (o_0 = o_2) then (k0 o_1 (r2 ++ [[D.int (cell 0 (elem x2.toNat x)).toInt, D.str (cell 1 (elem x2.toNat x)).toStr]])) else (F8_426 fu x x1 l l1 r r1 n (IntKind.i64.wrap (x2 + 1)) o_1 (r2 ++ [[D.int (cell 0 (elem x2.toNat x)).toInt, D.str (cell 1 (elem x2.toNat x)).toStr]]) k0 k1) else none else none else none else (k1 l2 r2)

noncomputable def t8_426 (fu n : Nat) : ToldP := fun _ e s K => match e, s with
  | [.ptr 0 0, .ptr 1 0, .ptr 2 0, .fz zq0 x false, .int .i64 x1, .int .i64 x2], [.obj [.int .i64 l, .int .i64 l1, .fz zq1 l2 false], .obj [.int .i64 r, .int .i64 r1, .fz zq2 r2 false], .obj [.int .i64 x3, .int .i64 x4, .nilslice]] => (match FT.sames zq0 ft0 with | true => (match FT.sames zq1 ft0 with | true => (match FT.sames zq2 ft0 with | true => F8_426 fu x x1 l l1 r r1 n x2 l2 r2 (fun o_ o_1 => K .ret (unpackM (bitsM 8 0xd0) [.ptr 1 0, .ptr 2 0, .bool (false)]) [.obj [.int .i64 (l), .int .i64 (l1), .fz ft0 o_ false], .obj [.int .i64 (r), .int .i64 (r1), .own 3], .obj [.int .i64 (r), .int .i64 (r1), .own 3], .row ft0 o_1]) (fun o_ o_1 => K (.exit 1) (unpackM (bitsM 8 0x50) [.ptr 1 0, .ptr 2 0]) [.obj [.int .i64 (l), .int .i64 (l1), .fz ft0 o_ false], .obj [.int .i64 (r), .int .i64 (r1), .fz ft0 o_1 false], .obj [.int .i64 (x3), .int .i64 (x4), .nilslice]]) | false => none) | false => none) | false => none)
  | _, _ => none

noncomputable def pc8_426 (fu : Nat) : Nat → Option ToldP := fun _ => none
theorem e8_426 (fu n : Nat) (R : Type) (K : VExit → UEnv → USt → Option R) (x : List (List D)) (x1 : Int) (x2 : Int) (l : Int) (l1 : Int) (l2 : List (List D)) (r : Int) (r1 : Int) (r2 : List (List D)) (x3 : Int) (x4 : Int) :
    F8_426 fu x x1 l l1 r r1 (n + 1) x2 l2 r2 (fun o_ o_1 => K .ret (unpackM (bitsM 8 0xd0) [.ptr 1 0, .ptr 2 0, .bool (false)]) [.obj [.int .i64 (l), .int .i64 (l1), .fz ft0 o_ false], .obj [.int .i64 (r), .int .i64 (r1), .own 3], .obj [.int .i64 (r), .int .i64 (r1), .own 3], .row ft0 o_1]) (fun o_ o_1 => K (.exit 1) (unpackM (bitsM 8 0x50) [.ptr 1 0, .ptr 2 0]) [.obj [.int .i64 (l), .int .i64 (l1), .fz ft0 o_ false], .obj [.int .i64 (r), .int .i64 (r1), .fz ft0 o_1 false], .obj [.int .i64 (x3), .int .i64 (x4), .nilslice]]) = uexec Try.prog (tb5 fu) 300 (pc8_426 fu) 852 (loopBody (codeAt code8 426)) (unpackM (bitsM 28 0xe000051) [.ptr 0 0, .ptr 1 0, .ptr 2 0, .fz ft0 x false, .int .i64 x1, .int .i64 x2]) [.obj [.int .i64 l, .int .i64 l1, .fz ft0 l2 false], .obj [.int .i64 r, .int .i64 r1, .fz ft0 r2 false], .obj [.int .i64 x3, .int .i64 x4, .nilslice]] (loopK 1 [.live (bitsM 28 0xe000051), .fzP 25 [] ft0, .gc, .fzC 1 2 ft0, .gc] [.live (bitsM 8 0xd0), .gc] (pkP (bitsM 28 0xe000051) (t8_426 fu n)) K) := by kernel_rfl

theorem p8_426 (fu : Nat) : SoundPc Try.prog 1 code8 (pc8_426 fu) := SoundPc.none _ _ _
theorem s8_426 (fu : Nat) : ∀ n, SoundP Try.prog 1 (.loop (loopBody (codeAt code8 426))) (pkP (bitsM 28 0xe000051) (t8_426 fu n)) := by
  refine loopP_sound (gin := [.live (bitsM 28 0xe000051), .fzP 25 [] ft0, .gc, .fzC 1 2 ft0, .gc]) (gout := [.live (bitsM 8 0xd0), .gc]) (k := 300) (tb5_sound fu) (p8_426 fu) (by decide) a8_426 (fun R e s K => ?_) (fun n R e s K r h => ?_)
  · unfold t8_426; repeat' split
    all_goals rfl
  · unfold t8_426 at h; split at h
    case h_2 => cases h
    split at h
    case h_2 => cases h
    rename_i hq
    have hq := FT.sames_eq _ _ hq
    subst hq
    split at h
    case h_2 => cases h
    rename_i hq
    have hq := FT.sames_eq _ _ hq
    subst hq
    split at h
    case h_2 => cases h
    rename_i hq
    have hq := FT.sames_eq _ _ hq
    subst hq
    exact (e8_426 fu n R K _ _ _ _ _ _ _ _ _ _ _).symm.trans h


noncomputable def F8 {R : Type} (fu : Nat) (r : List D) (o_ : List D) (l_base : Int) (l_term : Int) (l_l : List (List D)) (k0 : (List D) → Bool → Int → Int → (List (List D)) → Option R) : Option R :=
  bif decide ((cell 0 o_).toInt = 0) then F8_426 fu (cell 3 o_).toRows (ofN (cell 3 o_).toRows.length) l_base l_term (cell 0 r).toInt (cell 1 r).toInt fu 0 l_l (cell 2 r).toRows (fun o_0 o_1 => (k0 [D.int ((cell 0 r).toInt), D.int ((cell 1 r).toInt), D.row o_1] false l_base l_term o_0)) fun o_2 o_3 => (k0 [D.int ((cell 0 r).toInt), D.int ((cell 1 r).toInt), D.row o_3] true l_base l_term o_2) else bif decide ((cell 0 o_).toInt = 1) then bif decide ((cell 1 o_).toInt < 0) then F15 fu l_base l_term l_l fun o_4 => F10 fu (cell 3 o_).toRows fun o_5 => F11 fu fu (cell 1 o_).toInt (cell 2 o_).toInt o_5 l_base l_term l_l fun o_6 o_7 o_8 => bif !o_7 then F15 fu l_base l_term o_8 fun o_9 => (k0 r (decide (o_9 = o_4)) l_base l_term o_8) else (k0 r false l_base l_term o_8) else F21 fu [D.int (cell 0 r).toInt, D.int (cell 1 r).toInt, D.row (cell 2 r).toRows] (cell 1 o_).toInt (cell 2 o_).toInt (cell 3 o_).toRows fun o_10 o_11 o_12 => F10 fu (cell 3 o_).toRows fun o_13 => F11 fu fu (cell 1 o_).toInt (cell 2 o_).toInt o_13 l_base l_term l_l fun o_14 o_15 o_16 => bif decide (o_14 = o_11) then (k0 o_10 (o_15 == o_12) l_base l_term o_16) else (k0 o_10 false l_base l_term o_16) else bif decide ((cell 0 o_).toInt = 2) then F22 fu [D.int (cell 0 r).toInt, D.int (cell 1 r).toInt, D.row (cell 2 r).toRows] (cell 1 o_).toInt fun o_17 o_18 => F14 fu (cell 1 o_).toInt l_base l_term l_l fun o_19 o_20 o_21 o_22 => (k0 o_17 (decide (o_19 = o_18)) o_20 o_21 o_22) else (k0 r true l_base l_term l_l)

noncomputable def pc8 (fu : Nat) : Nat → Option ToldP := fun p => match Nat.beq p 426 with | true => some (ghP 1 [.live (bitsM 28 0xe000051), .fzP 25 [] ft0, .gc, .fzC 1 2 ft0, .gc] (pkP (bitsM 28 0xe000051) (t8_426 fu fu))) | false => none
noncomputable def t8 (fu : Nat) : ToldF := fun _ args s K => match args, s with
  | [.ptr 0 0, .agg [.int .i64 q, .int .i64 q1, .fz zq0 q2 false], .agg [.int .i64 q3, .int .i64 q4, .int .i64 q5, .fz zq1 q6 false]], [.obj [.int .i64 l_base, .int .i64 l_term, .fz zq2 l_l false]] => (match FT.sames zq0 ft0 with | true => (match FT.sames zq1 ft0 with | true => (match FT.sames zq2 ft0 with | true => F8 fu [D.int q, D.int q1, D.row q2] [D.int q3, D.int q4, D.int q5, D.row q6] l_base l_term l_l (fun o_ o_1 o_2 o_3 o_4 => K (.tuple [.agg (ofDs 0 ft1 o_), .bool o_1]) [.obj [.int .i64 o_2, .int .i64 o_3, .fz ft0 o_4 false]]) | false => none) | false => none) | false => none)
  | _, _ => none

theorem e8 (R : Type) (K : UV → USt → Option R) (fu : Nat) (q : Int) (q1 : Int) (q2 : List (List D)) (q3 : Int) (q4 : Int) (q5 : Int) (q6 : List (List D)) (l_base : Int) (l_term : Int) (l_l : List (List D)) :
    F8 fu [D.int q, D.int q1, D.row q2] [D.int q3, D.int q4, D.int q5, D.row q6] l_base l_term l_l (fun o_ o_1 o_2 o_3 o_4 => K (.tuple [.agg (ofDs 0 ft1 o_), .bool o_1]) [.obj [.int .i64 o_2, .int .i64 o_3, .fz ft0 o_4 false]]) = ufun Try.prog ⟨(tb5 fu), pc8 fu⟩ 300 8 [.ptr 0 0, .agg [.int .i64 q, .int .i64 q1, .fz ft0 q2 false], .agg [.int .i64 q3, .int .i64 q4, .int .i64 q5, .fz ft0 q6 false]] [.obj [.int .i64 l_base, .int .i64 l_term, .fz ft0 l_l false]] (funK 1 [.fzP 0 [0, 2] ft0, .gc, .fzC 0 2 ft0, .gc] K) := by kernel_rfl

theorem s8 (fu : Nat) : Tells Try.prog 8 (t8 fu) := by
  refine ufun_sound (T := ⟨(tb5 fu), pc8 fu⟩) (m := 1) (gout := [.fzP 0 [0, 2] ft0, .gc, .fzC 0 2 ft0, .gc]) (k := 300) (tb5_sound fu) (fun fn body hf hb => ?_) (fun R args s K r h => ?_) (fun R args s K r h => ?_)
  · have hc : body = code8 := by
      have h1 : Try.prog.funcs[8]? = some Try.f8 := rfl
      rw [h1] at hf; cases hf
      have h2 : Try.f8.body = some code8 := rfl
      rw [h2] at hb; cases hb; rfl
    subst hc
    exact fun p told h b hb => by
      replace h : pc8 fu p = some told := h
      unfold pc8 at h
      split at h
      · rename_i hp
        cases h
        have := Nat.eq_of_beq_eq_true hp
        subst this
        rw [a8_426] at hb
        cases hb
        exact ghP_sound (s8_426 fu _)
      ·
        cases h

  · unfold t8 at h; split at h
    · rfl
    · cases h
  · unfold t8 at h; split at h
    case h_2 => cases h
    split at h
    case h_2 => cases h
    rename_i hq
    have hq := FT.sames_eq _ _ hq
    subst hq
    split at h
    case h_2 => cases h
    rename_i hq
    have hq := FT.sames_eq _ _ hq
    subst hq
    split at h
    case h_2 => cases h
    rename_i hq
    have hq := FT.sames_eq _ _ hq
    subst hq
    exact (e8 R K fu _ _ _ _ _ _ _ _ _ _).symm.trans h

noncomputable def tb8 (fu : Nat) : FuncId → Option (Bool × ToldF) := fun f => match Nat.beq f 8 with
  | true => some (false, ghG [.fzP 1 [2] ft0, .fzP 2 [3] ft0, .gc, .fzC 0 2 ft0, .gc] (t8 fu))
  | false => (tb5 fu) f
theorem tb8_sound (fu : Nat) : SoundF' Try.prog (tb8 fu) := by
  intro f own told h
  unfold tb8 at h
  split at h
  · rename_i hb
    cases h
    have := Nat.eq_of_beq_eq_true hb
    subst this
    exact ghG_sound (s8 fu)
  · exact (tb5_sound fu) f own told h

end Go.Proofs.Ytkefbcnibffekaa.V

/- Printed by ugen: (*daisychain/entry.Log).Merge -/
namespace Go.Proofs.Ytkefbcnibffekaa.V
set_option maxRecDepth 100000
set_option maxHeartbeats 4000000


noncomputable def code11v : Code := match Try.f11.body with | some c => c | none => .skip
theorem a11v_250 : codeAt code11v 250 = some (.loop (loopBody (codeAt code11v 250))) := by kernel_rfl
noncomputable def F11v_250 {R : Type} (fu : Nat) (at_ : Int) (x : Int) (l : Int) (l1 : Int) (more : List (List D)) : Nat → Int → (List (List D)) → ((List (List D)) → Option R) → Option R
  | 0, _, _, _ => none
  | n + 1, x1, l2, k0 => bif decide (x1 < x) then bif within x1 more.length then F24 fu (IntKind.i64.wrap (IntKind.i64.wrap (at_ + 1) + x1)) l l1 l2 fun o_0 o_1 => bif o_1 then bif decide (o_0 = (cell 0 (elem x1.toNat more)).toInt) then (F11v_250 fu at_ x l l1 more n (IntKind.i64.wrap (x1 + 1)) l2 k0) else bif decide ((0 : Int) ≤ 0 ∧ 0 ≤ if ofN l2.length < IntKind.i64.wrap (IntKind.i64.wrap (IntKind.i64.wrap (IntKind.i64.wrap (at_ + 1) + x1) - l) - 1) then ofN l2.length else IntKind.i64.wrap (IntKind.i64.wrap (IntKind.i64.wrap (IntKind.i64.wrap (at_ + 1) + x1) - l) - 1)) && upTo (if ofN l2.length < IntKind.i64.wrap (IntKind.i64.wrap (IntKind.i64.wrap (IntKind.i64.wrap (at_ + 1) + x1) - l) - 1) then ofN l2.length else IntKind.i64.wrap (IntKind.i64.wrap (IntKind.i64.wrap (IntKind.i64.wrap (at_ + 1) + x1) - l) - 1)) l2.length then F13 fu [D.int (cell 0 (elem x1.toNat more)).toInt, D.str (cell 1 (elem x1.toNat more)).toStr] l l1 (part l2 0 (if ofN l2.length < IntKind.i64.wrap (IntKind.i64.wrap (IntKind.i64.wrap (IntKind.i64.wrap (at_ + 1) + x1) - l) - 1) then ofN l2.length else IntKind.i64.wrap (IntKind.i64.wrap (IntKind.i64.wrap (IntKind.i64.wrap (at_ + 1) + x1) - l) - 1)).toNat) fun o_2 o_3 => (F11v_250 fu at_ x l l1 more n (IntKind.i64.wrap (x1 + 1)) o_3 k0) else none else bif decide ((0 : Int) ≤ 0 ∧ 0 ≤ if ofN l2.length < IntKind.i64.wrap (IntKind.i64.wrap (IntKind.i64.wrap (IntKind.i64.wrap (at_ + 1) + x1) - l) - 1) then ofN l2.length else IntKind.i64.wrap (IntKind.i64.wrap (IntKind.i64.wrap (IntKind.i64.wrap (at_ + 1) + x1) - l) - 1)) && upTo (if ofN l2.length < IntKind.i64.wrap (IntKind.i64.wrap (IntKind.i64.wrap (IntKind.i64.wrap (at_ + 1) + x1) - l) - 1) then ofN l2.length else IntKind.i64.wrap (IntKind.i64.wrap (IntKind.i64.wrap (IntKind.i64.wrap (at_ + 1) + x1) - l) - 1)) l2.length then F13 fu [D.int (cell 0 (elem x1.toNat more)).toInt, D.str (cell 1 (elem x1.toNat more)).toStr] l l1 (part l2 0 (if ofN l2.length < IntKind.i64.wrap (IntKind.i64.wrap (IntKind.i64.wrap (IntKind.i64.wrap (at_ + 1) + x1) - l) - 1) then ofN l2.length else IntKind.i64.wrap (IntKind.i64.wrap (IntKind.i64.wrap (IntKind.i64.wrap (at_ + 1) + x1) - l) - 1)).toNat) fun o_4 o_5 => (F11v_250 fu at_ x l l1 more n (IntKind.i64.wrap (x1 + 1)) o_5 k0) else none else none else (k0 l2)

noncomputable def t11v_250 (fu n : Nat) : ToldP := fun _ e s K => match e, s with
  | [.ptr 0 0, .int .i64 at_, .own 1, .own 1, .int .i64 x, .int .i64 x1], [.obj [.int .i64 l, .int .i64 l1, .fz zq0 l2 false], .row zq1 more] => (match FT.sames zq0 ft0 with | true => (match FT.sames zq1 ft0 with | true => F11v_250 fu at_ x l l1 more n x1 l2 (fun o_ => K (.exit 0) (unpackM (bitsM 10 0xa) [.int .i64 (at_), .own 1]) [.obj [.int .i64 (l), .int .i64 (l1), .fz ft0 o_ false], .row ft0 (more)]) | false => none) | false => none)
  | _, _ => none

noncomputable def pc11v_250 (fu : Nat) : Nat → Option ToldP := fun _ => none
theorem e11v_250 (fu n : Nat) (R : Type) (K : VExit → UEnv → USt → Option R) (at_ : Int) (x : Int) (x1 : Int) (l : Int) (l1 : Int) (l2 : List (List D)) (more : List (List D)) :
    F11v_250 fu at_ x l l1 more (n + 1) x1 l2 (fun o_ => K (.exit 0) (unpackM (bitsM 10 0xa) [.int .i64 (at_), .own 1]) [.obj [.int .i64 (l), .int .i64 (l1), .fz ft0 o_ false], .row ft0 (more)]) = uexec Try.prog (tb8 fu) 300 (pc11v_250 fu) 500 (loopBody (codeAt code11v 250)) (unpackM (bitsM 74 0x380000000000000000b) [.ptr 0 0, .int .i64 at_, .own 1, .own 1, .int .i64 x, .int .i64 x1]) [.obj [.int .i64 l, .int .i64 l1, .fz ft0 l2 false], .row ft0 more] (loopK 2 [.live (bitsM 74 0x380000000000000000b), .ownP 3 [] ft0, .ownP 71 [] ft0, .gc] [.live (bitsM 10 0x30a), .gc] (pkP (bitsM 74 0x380000000000000000b) (t11v_250 fu n)) K) := by kernel_rfl

theorem p11v_250 (fu : Nat) : SoundPc Try.prog 2 code11v (pc11v_250 fu) := SoundPc.none _ _ _
theorem s11v_250 (fu : Nat) : ∀ n, SoundP Try.prog 2 (.loop (loopBody (codeAt code11v 250))) (pkP (bitsM 74 0x380000000000000000b) (t11v_250 fu n)) := by
  refine loopP_sound (gin := [.live (bitsM 74 0x380000000000000000b), .ownP 3 [] ft0, .ownP 71 [] ft0, .gc]) (gout := [.live (bitsM 10 0x30a), .gc]) (k := 300) (tb8_sound fu) (p11v_250 fu) (by decide) a11v_250 (fun R e s K => ?_) (fun n R e s K r h => ?_)
  · unfold t11v_250; repeat' split
    all_goals rfl
  · unfold t11v_250 at h; split at h
    case h_2 => cases h
    split at h
    case h_2 => cases h
    rename_i hq
    have hq := FT.sames_eq _ _ hq
    subst hq
    split at h
    case h_2 => cases h
    rename_i hq
    have hq := FT.sames_eq _ _ hq
    subst hq
    exact (e11v_250 fu n R K _ _ _ _ _ _ _).symm.trans h


noncomputable def F11v {R : Type} (fu : Nat) : Nat → Int → Int → Int → Int → (List (List D)) → (List (List D)) → (Int → Bool → (List (List D)) → Option R) → Option R
  | 0, _, _, _, _, _, _, _ => none
  | n + 1, at_, term, l_base, l_term, l_l, more, k0 => bif decide (at_ < 0) then (k0 0 false l_l) else bif decide (at_ < l_base) then bif decide (ofN more.length ≤ IntKind.i64.wrap (l_base - at_)) then (k0 (IntKind.i64.wrap (at_ + ofN more.length)) true l_l) else bif decide (0 ≤ IntKind.i64.wrap (l_base - at_) ∧ IntKind.i64.wrap (l_base - at_) ≤ ofN more.length) && upTo (ofN more.length) more.length then none else none else F24 fu at_ l_base l_term l_l fun o_0 o_1 => bif !o_1 then (k0 0 false l_l) else bif !decide (o_0 = term) then (k0 0 false l_l) else F11v_250 fu at_ (ofN more.length) l_base l_term more fu 0 l_l fun o_2 => (k0 (IntKind.i64.wrap (at_ + ofN more.length)) true o_2)

noncomputable def pc11v (fu : Nat) : Nat → Option ToldP := fun p => match Nat.beq p 250 with | true => some (ghP 2 [.live (bitsM 74 0x380000000000000000b), .ownP 3 [] ft0, .ownP 71 [] ft0, .gc] (pkP (bitsM 74 0x380000000000000000b) (t11v_250 fu fu))) | false => none
noncomputable def t11v (fu n : Nat) : ToldF := fun _ args s K => match args, s with
  | [.ptr 0 0, .int .i64 at_, .int .i64 term, .own 1], [.obj [.int .i64 l_base, .int .i64 l_term, .fz zq0 l_l false], .row zq1 more] => (match FT.sames zq0 ft0 with | true => (match FT.sames zq1 ft0 with | true => F11v fu n at_ term l_base l_term l_l more (fun o_ o_1 o_2 => K (.tuple [.int .i64 o_, .bool o_1]) [.obj [.int .i64 (l_base), .int .i64 (l_term), .fz ft0 o_2 false], .row ft0 (more)]) | false => none) | false => none)
  | _, _ => none

noncomputable def tbs11v (fu n : Nat) : FuncId → Option (Bool × ToldF) := fun f => match Nat.beq f 11 with
  | true => some (true, ghG [.ownP 3 [] ft0, .gc, .fzC 0 2 ft0, .gc] (t11v fu n))
  | false => (tb8 fu) f
theorem tbs11v_sound (fu n : Nat) (ih : Tells Try.prog 11 (t11v fu n)) : SoundF' Try.prog (tbs11v fu n) := by
  intro f own told h
  unfold tbs11v at h
  split at h
  · rename_i hb
    cases h
    have := Nat.eq_of_beq_eq_true hb
    subst this
    exact ghG_sound ih
  · exact (tb8_sound fu) f own told h
theorem e11v (R : Type) (K : UV → USt → Option R) (fu n : Nat) (at_ : Int) (term : Int) (l_base : Int) (l_term : Int) (l_l : List (List D)) (more : List (List D)) :
    F11v fu (n + 1) at_ term l_base l_term l_l more (fun o_ o_1 o_2 => K (.tuple [.int .i64 o_, .bool o_1]) [.obj [.int .i64 (l_base), .int .i64 (l_term), .fz ft0 o_2 false], .row ft0 (more)]) = ufun Try.prog ⟨(tbs11v fu n), pc11v fu⟩ 300 11 [.ptr 0 0, .int .i64 at_, .int .i64 term, .own 1] [.obj [.int .i64 l_base, .int .i64 l_term, .fz ft0 l_l false], .row ft0 more] (funK 2 [.gc, .fzC 0 2 ft0, .gc] K) := by kernel_rfl

theorem s11v (fu : Nat) : ∀ n, Tells Try.prog 11 (t11v fu n) := by
  intro n
  induction n with
  | zero =>
    intro R args s K r h
    unfold t11v at h
    repeat' split at h
    all_goals first | cases h | (unfold F11v at h; cases h)
  | succ n ih =>
    refine ufun_sound (T := ⟨(tbs11v fu n), pc11v fu⟩) (m := 2) (gout := [.gc, .fzC 0 2 ft0, .gc]) (k := 300) (tbs11v_sound fu n ih) (fun fn body hf hb => ?_) (fun R args s K r h => ?_) (fun R args s K r h => ?_)
    · have hc : body = code11v := by
        have h1 : Try.prog.funcs[11]? = some Try.f11 := rfl
        rw [h1] at hf; cases hf
        have h2 : Try.f11.body = some code11v := rfl
        rw [h2] at hb; cases hb; rfl
      subst hc
      exact fun p told h b hb => by
        replace h : pc11v fu p = some told := h
        unfold pc11v at h
        split at h
        · rename_i hp
          cases h
          have := Nat.eq_of_beq_eq_true hp
          subst this
          rw [a11v_250] at hb
          cases hb
          exact ghP_sound (s11v_250 fu _)
        ·
          cases h

    · unfold t11v at h; split at h
      · rfl
      · cases h
    · unfold t11v at h; split at h
      case h_2 => cases h
      split at h
      case h_2 => cases h
      rename_i hq
      have hq := FT.sames_eq _ _ hq
      subst hq
      split at h
      case h_2 => cases h
      rename_i hq
      have hq := FT.sames_eq _ _ hq
      subst hq
      exact (e11v R K fu n _ _ _ _ _ _).symm.trans h

noncomputable def tb11v (fu : Nat) : FuncId → Option (Bool × ToldF) := fun f => match Nat.beq f 11 with
  | true => some (true, ghG [.ownP 3 [] ft0, .gc, .fzC 0 2 ft0, .gc] (t11v fu fu))
  | false => (tb8 fu) f
theorem tb11v_sound (fu : Nat) : SoundF' Try.prog (tb11v fu) := by
  intro f own told h
  unfold tb11v at h
  split at h
  · rename_i hb
    cases h
    have := Nat.eq_of_beq_eq_true hb
    subst this
    exact ghG_sound (s11v fu fu)
  · exact (tb8_sound fu) f own told h

end Go.Proofs.Ytkefbcnibffekaa.V

/- Printed by ugen: daisychain/daisychainlaw11.EntryCopies -/
namespace Go.Proofs.Ytkefbcnibffekaa.V
set_option maxRecDepth 100000
set_option maxHeartbeats 4000000


noncomputable def code3 : Code := match Try.f3.body with | some c => c | none => .skip
theorem a3_250 : codeAt code3 250 = some (.loop (loopBody (codeAt code3 250))) := by kernel_rfl
noncomputable def F3_250 {R : Type} (fu : Nat) (x : List (List D)) (x1 : Int) : Nat → Int → Int → Int → (List (List D)) → Int → Int → (List (List D)) → (Int → Int → (List (List D)) → Int → Int → (List (List D)) → Option R) → Option R
  | 0, _, _, _, _, _, _, _, _ => none
  | n + 1, x2, x3, x4, x5, r, r1, r2, k0 => bif decide (x2 < x1) then bif within x2 x.length then F8 fu [D.int r, D.int r1, D.row r2] [D.int (cell 0 (elem x2.toNat x)).toInt, D.int (cell 1 (elem x2.toNat x)).toInt, D.int (cell 2 (elem x2.toNat x)).toInt, D.row (cell 3 (elem x2.toNat x)).toRows] x3 x4 x5 fun o_0 o_1 o_2 o_3 o_4 => (F3_250 fu x x1 n (IntKind.i64.wrap (x2 + 1)) o_2 o_3 o_4 ((cell 0 o_0).toInt) ((cell 1 o_0).toInt) ((cell 2 o_0).toRows) k0) else none else (k0 x3 x4 x5 r r1 r2)

noncomputable def t3_250 (fu n : Nat) : ToldP := fun _ e s K => match e, s with
  | [.fz zq0 more false, .ptr 0 0, .ptr 1 0, .fz zq1 x false, .int .i64 x1, .int .i64 x2], [.obj [.int .i64 x3, .int .i64 x4, .fz zq2 x5 false], .obj [.int .i64 r, .int .i64 r1, .fz zq3 r2 false]] => (match FT.sames zq0 ft0 with | true => (match FT.sames zq1 ft2 with | true => (match FT.sames zq2 ft0 with | true => (match FT.sames zq3 ft0 with | true => F3_250 fu x x1 n x2 x3 x4 x5 r r1 r2 (fun o_ o_1 o_2 o_3 o_4 o_5 => K (.exit 0) (unpackM (bitsM 7 0x62) [.fz ft0 (more) false, .ptr 0 0, .ptr 1 0]) [.obj [.int .i64 o_, .int .i64 o_1, .fz ft0 o_2 false], .obj [.int .i64 o_3, .int .i64 o_4, .fz ft0 o_5 false]]) | false => none) | false => none) | false => none) | false => none)
  | _, _ => none

noncomputable def pc3_250 (fu : Nat) : Nat → Option ToldP := fun _ => none
theorem e3_250 (fu n : Nat) (R : Type) (K : VExit → UEnv → USt → Option R) (more : List (List D)) (x : List (List D)) (x1 : Int) (x2 : Int) (x3 : Int) (x4 : Int) (x5 : List (List D)) (r : Int) (r1 : Int) (r2 : List (List D)) :
    F3_250 fu x x1 (n + 1) x2 x3 x4 x5 r r1 r2 (fun o_ o_1 o_2 o_3 o_4 o_5 => K (.exit 0) (unpackM (bitsM 7 0x62) [.fz ft0 (more) false, .ptr 0 0, .ptr 1 0]) [.obj [.int .i64 o_, .int .i64 o_1, .fz ft0 o_2 false], .obj [.int .i64 o_3, .int .i64 o_4, .fz ft0 o_5 false]]) = uexec Try.prog (tb11v fu) 300 (pc3_250 fu) 500 (loopBody (codeAt code3 250)) (unpackM (bitsM 35 0x700000062) [.fz ft0 more false, .ptr 0 0, .ptr 1 0, .fz ft2 x false, .int .i64 x1, .int .i64 x2]) [.obj [.int .i64 x3, .int .i64 x4, .fz ft0 x5 false], .obj [.int .i64 r, .int .i64 r1, .fz ft0 r2 false]] (loopK 0 [.live (bitsM 35 0x700000062), .fzP 1 [] ft0, .fzP 32 [] ft2, .gc, .fzC 0 2 ft0, .fzC 1 2 ft0, .gc] [.live (bitsM 7 0x72), .gc] (pkP (bitsM 35 0x700000062) (t3_250 fu n)) K) := by kernel_rfl

theorem p3_250 (fu : Nat) : SoundPc Try.prog 0 code3 (pc3_250 fu) := SoundPc.none _ _ _
theorem s3_250 (fu : Nat) : ∀ n, SoundP Try.prog 0 (.loop (loopBody (codeAt code3 250))) (pkP (bitsM 35 0x700000062) (t3_250 fu n)) := by
  refine loopP_sound (gin := [.live (bitsM 35 0x700000062), .fzP 1 [] ft0, .fzP 32 [] ft2, .gc, .fzC 0 2 ft0, .fzC 1 2 ft0, .gc]) (gout := [.live (bitsM 7 0x72), .gc]) (k := 300) (tb11v_sound fu) (p3_250 fu) (by decide) a3_250 (fun R e s K => ?_) (fun n R e s K r h => ?_)
  · unfold t3_250; repeat' split
    all_goals rfl
  · unfold t3_250 at h; split at h
    case h_2 => cases h
    split at h
    case h_2 => cases h
    rename_i hq
    have hq := FT.sames_eq _ _ hq
    subst hq
    split at h
    case h_2 => cases h
    rename_i hq
    have hq := FT.sames_eq _ _ hq
    subst hq
    split at h
    case h_2 => cases h
    rename_i hq
    have hq := FT.sames_eq _ _ hq
    subst hq
    split at h
    case h_2 => cases h
    rename_i hq
    have hq := FT.sames_eq _ _ hq
    subst hq
    exact (e3_250 fu n R K _ _ _ _ _ _ _ _ _ _).symm.trans h

theorem a3_65530 : codeAt code3 65530 = some (.loop (loopBody (codeAt code3 65530))) := by kernel_rfl
noncomputable def F3_65530 {R : Type} (fu : Nat) (x : Int) : Nat → Int → (List (List D)) → (Option R) → Option R
  | 0, _, _, _ => none
  | n + 1, x1, told, k0 => bif decide (x1 < x) then bif within x1 told.length then (F3_65530 fu x n (IntKind.i64.wrap (x1 + 1)) (putAt told x1.toNat 0 [D.int 78]) k0) else none else (k0)

noncomputable def t3_65530 (fu n : Nat) : ToldP := fun _ e s K => match e, s with
  | [.fz zq0 more false, .ptr 0 0, .ptr 1 0, .own 2, .own 3, .int .i64 x, .int .i64 x1], [.obj [.int .i64 x2, .int .i64 x3, .fz zq1 x4 false], .obj [.int .i64 r, .int .i64 r1, .fz zq2 r2 false], .row zq3 given, .row zq4 told] => (match FT.sames zq0 ft0 with | true => (match FT.sames zq1 ft0 with | true => (match FT.sames zq2 ft0 with | true => (match FT.sames zq3 ft0 with | true => (match FT.sames zq4 ft0 with | true => F3_65530 fu x n x1 told (K (.exit 2) (unpackM (bitsM 11 0x462) [.fz ft0 (more) false, .ptr 0 0, .ptr 1 0, .own 2]) [.obj [.int .i64 (x2), .int .i64 (x3), .fz ft0 (x4) false], .obj [.int .i64 (r), .int .i64 (r1), .fz ft0 (r2) false], .row ft0 (given)]) | false => none) | false => none) | false => none) | false => none) | false => none)
  | _, _ => none

noncomputable def pc3_65530 (fu : Nat) : Nat → Option ToldP := fun _ => none
theorem e3_65530 (fu n : Nat) (R : Type) (K : VExit → UEnv → USt → Option R) (more : List (List D)) (x : Int) (x1 : Int) (x2 : Int) (x3 : Int) (x4 : List (List D)) (r : Int) (r1 : Int) (r2 : List (List D)) (given : List (List D)) (told : List (List D)) :
    F3_65530 fu x (n + 1) x1 told (K (.exit 2) (unpackM (bitsM 11 0x462) [.fz ft0 (more) false, .ptr 0 0, .ptr 1 0, .own 2]) [.obj [.int .i64 (x2), .int .i64 (x3), .fz ft0 (x4) false], .obj [.int .i64 (r), .int .i64 (r1), .fz ft0 (r2) false], .row ft0 (given)]) = uexec Try.prog (tb11v fu) 300 (pc3_65530 fu) 131060 (loopBody (codeAt code3 65530)) (unpackM (bitsM 72 0xc00000000000000c62) [.fz ft0 more false, .ptr 0 0, .ptr 1 0, .own 2, .own 3, .int .i64 x, .int .i64 x1]) [.obj [.int .i64 x2, .int .i64 x3, .fz ft0 x4 false], .obj [.int .i64 r, .int .i64 r1, .fz ft0 r2 false], .row ft0 given, .row ft0 told] (loopK 0 [.live (bitsM 72 0xc00000000000000c62), .fzP 1 [] ft0, .ownP 10 [] ft0, .ownP 11 [] ft0, .gc, .fzC 0 2 ft0, .fzC 1 2 ft0, .gc] [.live (bitsM 11 0x472), .gc] (pkP (bitsM 72 0xc00000000000000c62) (t3_65530 fu n)) K) := by kernel_rfl

theorem p3_65530 (fu : Nat) : SoundPc Try.prog 0 code3 (pc3_65530 fu) := SoundPc.none _ _ _
theorem s3_65530 (fu : Nat) : ∀ n, SoundP Try.prog 0 (.loop (loopBody (codeAt code3 65530))) (pkP (bitsM 72 0xc00000000000000c62) (t3_65530 fu n)) := by
  refine loopP_sound (gin := [.live (bitsM 72 0xc00000000000000c62), .fzP 1 [] ft0, .ownP 10 [] ft0, .ownP 11 [] ft0, .gc, .fzC 0 2 ft0, .fzC 1 2 ft0, .gc]) (gout := [.live (bitsM 11 0x472), .gc]) (k := 300) (tb11v_sound fu) (p3_65530 fu) (by decide) a3_65530 (fun R e s K => ?_) (fun n R e s K r h => ?_)
  · unfold t3_65530; repeat' split
    all_goals rfl
  · unfold t3_65530 at h; split at h
    case h_2 => cases h
    split at h
    case h_2 => cases h
    rename_i hq
    have hq := FT.sames_eq _ _ hq
    subst hq
    split at h
    case h_2 => cases h
    rename_i hq
    have hq := FT.sames_eq _ _ hq
    subst hq
    split at h
    case h_2 => cases h
    rename_i hq
    have hq := FT.sames_eq _ _ hq
    subst hq
    split at h
    case h_2 => cases h
    rename_i hq
    have hq := FT.sames_eq _ _ hq
    subst hq
    split at h
    case h_2 => cases h
    rename_i hq
    have hq := FT.sames_eq _ _ hq
    subst hq
    exact (e3_65530 fu n R K _ _ _ _ _ _ _ _ _ _ _).symm.trans h

theorem a3_1048570 : codeAt code3 1048570 = some (.loop (loopBody (codeAt code3 1048570))) := by kernel_rfl
noncomputable def F3_1048570 {R : Type} (fu : Nat) (x : Int) : Nat → Int → (List (List D)) → (Option R) → Option R
  | 0, _, _, _ => none
  | n + 1, x1, given, k0 => bif decide (x1 < x) then bif within x1 given.length then (F3_1048570 fu x n (IntKind.i64.wrap (x1 + 1)) (putAt given x1.toNat 0 [D.int 79]) k0) else none else (k0)

noncomputable def t3_1048570 (fu n : Nat) : ToldP := fun _ e s K => match e, s with
  | [.fz zq0 more false, .ptr 0 0, .ptr 1 0, .own 2, .ptr 3 0, .int .i64 x, .int .i64 x1], [.obj [.int .i64 x2, .int .i64 x3, .fz zq1 x4 false], .obj [.int .i64 r, .int .i64 r1, .fz zq2 r2 false], .row zq3 given, .obj [.int .i64 y, .int .i64 y1, .fz zq4 y2 false]] => (match FT.sames zq0 ft0 with | true => (match FT.sames zq1 ft0 with | true => (match FT.sames zq2 ft0 with | true => (match FT.sames zq3 ft0 with | true => (match FT.sames zq4 ft0 with | true => F3_1048570 fu x n x1 given (K (.exit 4) (unpackM (bitsM 14 0x2062) [.fz ft0 (more) false, .ptr 0 0, .ptr 1 0, .ptr 2 0]) [.obj [.int .i64 (x2), .int .i64 (x3), .fz ft0 (x4) false], .obj [.int .i64 (r), .int .i64 (r1), .fz ft0 (r2) false], .obj [.int .i64 (y), .int .i64 (y1), .fz ft0 (y2) false]]) | false => none) | false => none) | false => none) | false => none) | false => none)
  | _, _ => none

noncomputable def pc3_1048570 (fu : Nat) : Nat → Option ToldP := fun _ => none
theorem e3_1048570 (fu n : Nat) (R : Type) (K : VExit → UEnv → USt → Option R) (more : List (List D)) (x : Int) (x1 : Int) (x2 : Int) (x3 : Int) (x4 : List (List D)) (r : Int) (r1 : Int) (r2 : List (List D)) (given : List (List D)) (y : Int) (y1 : Int) (y2 : List (List D)) :
    F3_1048570 fu x (n + 1) x1 given (K (.exit 4) (unpackM (bitsM 14 0x2062) [.fz ft0 (more) false, .ptr 0 0, .ptr 1 0, .ptr 2 0]) [.obj [.int .i64 (x2), .int .i64 (x3), .fz ft0 (x4) false], .obj [.int .i64 (r), .int .i64 (r1), .fz ft0 (r2) false], .obj [.int .i64 (y), .int .i64 (y1), .fz ft0 (y2) false]]) = uexec Try.prog (tb11v fu) 300 (pc3_1048570 fu) 2097140 (loopBody (codeAt code3 1048570)) (unpackM (bitsM 88 0xc000000000000000002462) [.fz ft0 more false, .ptr 0 0, .ptr 1 0, .own 2, .ptr 3 0, .int .i64 x, .int .i64 x1]) [.obj [.int .i64 x2, .int .i64 x3, .fz ft0 x4 false], .obj [.int .i64 r, .int .i64 r1, .fz ft0 r2 false], .row ft0 given, .obj [.int .i64 y, .int .i64 y1, .fz ft0 y2 false]] (loopK 0 [.live (bitsM 88 0xc000000000000000002462), .fzP 1 [] ft0, .ownP 10 [] ft0, .gc, .fzC 0 2 ft0, .fzC 1 2 ft0, .fzC 3 2 ft0, .gc] [.live (bitsM 14 0x2072), .gc] (pkP (bitsM 88 0xc000000000000000002462) (t3_1048570 fu n)) K) := by kernel_rfl

theorem p3_1048570 (fu : Nat) : SoundPc Try.prog 0 code3 (pc3_1048570 fu) := SoundPc.none _ _ _
theorem s3_1048570 (fu : Nat) : ∀ n, SoundP Try.prog 0 (.loop (loopBody (codeAt code3 1048570))) (pkP (bitsM 88 0xc000000000000000002462) (t3_1048570 fu n)) := by
  refine loopP_sound (gin := [.live (bitsM 88 0xc000000000000000002462), .fzP 1 [] ft0, .ownP 10 [] ft0, .gc, .fzC 0 2 ft0, .fzC 1 2 ft0, .fzC 3 2 ft0, .gc]) (gout := [.live (bitsM 14 0x2072), .gc]) (k := 300) (tb11v_sound fu) (p3_1048570 fu) (by decide) a3_1048570 (fun R e s K => ?_) (fun n R e s K r h => ?_)
  · unfold t3_1048570; repeat' split
    all_goals rfl
  · unfold t3_1048570 at h; split at h
    case h_2 => cases h
    split at h
    case h_2 => cases h
    rename_i hq
    have hq := FT.sames_eq _ _ hq
    subst hq
    split at h
    case h_2 => cases h
    rename_i hq
    have hq := FT.sames_eq _ _ hq
    subst hq
    split at h
    case h_2 => cases h
    rename_i hq
    have hq := FT.sames_eq _ _ hq
    subst hq
    split at h
    case h_2 => cases h
    rename_i hq
    have hq := FT.sames_eq _ _ hq
    subst hq
    split at h
    case h_2 => cases h
    rename_i hq
    have hq := FT.sames_eq _ _ hq
    subst hq
    exact (e3_1048570 fu n R K _ _ _ _ _ _ _ _ _ _ _ _ _).symm.trans h

theorem a3_2097146 : codeAt code3 2097146 = some (.loop (loopBody (codeAt code3 2097146))) := by kernel_rfl
noncomputable def F3_2097146 {R : Type} (fu : Nat) (x : List (List D)) (x1 : Int) (y : Int) (y1 : Int) (y2 : List (List D)) : Nat → Int → (Option R) → (Option R) → Option R
  | 0, _, _, _ => none
  | n + 1, x2, k0, k1 => bif decide (x2 < x1) then bif within x2 x.length then F17 fu (IntKind.i64.wrap (x2 + 1)) y y1 y2 fun o_0 o_1 => bif !o_1 then (k0) else bif !(decide ((cell 0 o_0).toInt = (cell 0 (elem x2.toNat x)).toInt) && (strEq (cell 1 o_0).toStr (cell 1 (elem x2.toNat x)).toStr && true)) then (k0) else (F3_2097146 fu x x1 y y1 y2 n (IntKind.i64.wrap (x2 + 1)) k0 k1) else none else (k1)

noncomputable def t3_2097146 (fu n : Nat) : ToldP := fun _ e s K => match e, s with
  | [.ptr 0 0, .ptr 1 0, .ptr 2 0, .fz zq0 x false, .int .i64 x1, .int .i64 x2], [.obj [.int .i64 x3, .int .i64 x4, .fz zq1 x5 false], .obj [.int .i64 r, .int .i64 r1, .fz zq2 r2 false], .obj [.int .i64 y, .int .i64 y1, .fz zq3 y2 false]] => (match FT.sames zq0 ft0 with | true => (match FT.sames zq1 ft0 with | true => (match FT.sames zq2 ft0 with | true => (match FT.sames zq3 ft0 with | true => F3_2097146 fu x x1 y y1 y2 n x2 (K .ret (unpackM (bitsM 7 0x70) [.bool (false), .ptr 0 0, .ptr 1 0]) [.obj [.int .i64 (x3), .int .i64 (x4), .fz ft0 (x5) false], .obj [.int .i64 (r), .int .i64 (r1), .fz ft0 (r2) false]]) (K (.exit 6) (unpackM (bitsM 7 0x60) [.ptr 0 0, .ptr 1 0]) [.obj [.int .i64 (x3), .int .i64 (x4), .fz ft0 (x5) false], .obj [.int .i64 (r), .int .i64 (r1), .fz ft0 (r2) false]]) | false => none) | false => none) | false => none) | false => none)
  | _, _ => none

noncomputable def pc3_2097146 (fu : Nat) : Nat → Option ToldP := fun _ => none
theorem e3_2097146 (fu n : Nat) (R : Type) (K : VExit → UEnv → USt → Option R) (x : List (List D)) (x1 : Int) (x2 : Int) (x3 : Int) (x4 : Int) (x5 : List (List D)) (r : Int) (r1 : Int) (r2 : List (List D)) (y : Int) (y1 : Int) (y2 : List (List D)) :
    F3_2097146 fu x x1 y y1 y2 (n + 1) x2 (K .ret (unpackM (bitsM 7 0x70) [.bool (false), .ptr 0 0, .ptr 1 0]) [.obj [.int .i64 (x3), .int .i64 (x4), .fz ft0 (x5) false], .obj [.int .i64 (r), .int .i64 (r1), .fz ft0 (r2) false]]) (K (.exit 6) (unpackM (bitsM 7 0x60) [.ptr 0 0, .ptr 1 0]) [.obj [.int .i64 (x3), .int .i64 (x4), .fz ft0 (x5) false], .obj [.int .i64 (r), .int .i64 (r1), .fz ft0 (r2) false]]) = uexec Try.prog (tb11v fu) 300 (pc3_2097146 fu) 4194292 (loopBody (codeAt code3 2097146)) (unpackM (bitsM 98 0x3800000000000000000002060) [.ptr 0 0, .ptr 1 0, .ptr 2 0, .fz ft0 x false, .int .i64 x1, .int .i64 x2]) [.obj [.int .i64 x3, .int .i64 x4, .fz ft0 x5 false], .obj [.int .i64 r, .int .i64 r1, .fz ft0 r2 false], .obj [.int .i64 y, .int .i64 y1, .fz ft0 y2 false]] (loopK 0 [.live (bitsM 98 0x3800000000000000000002060), .fzP 95 [] ft0, .gc, .fzC 0 2 ft0, .fzC 1 2 ft0, .fzC 2 2 ft0, .gc] [.live (bitsM 7 0x70), .gc] (pkP (bitsM 98 0x3800000000000000000002060) (t3_2097146 fu n)) K) := by kernel_rfl

theorem p3_2097146 (fu : Nat) : SoundPc Try.prog 0 code3 (pc3_2097146 fu) := SoundPc.none _ _ _
theorem s3_2097146 (fu : Nat) : ∀ n, SoundP Try.prog 0 (.loop (loopBody (codeAt code3 2097146))) (pkP (bitsM 98 0x3800000000000000000002060) (t3_2097146 fu n)) := by
  refine loopP_sound (gin := [.live (bitsM 98 0x3800000000000000000002060), .fzP 95 [] ft0, .gc, .fzC 0 2 ft0, .fzC 1 2 ft0, .fzC 2 2 ft0, .gc]) (gout := [.live (bitsM 7 0x70), .gc]) (k := 300) (tb11v_sound fu) (p3_2097146 fu) (by decide) a3_2097146 (fun R e s K => ?_) (fun n R e s K r h => ?_)
  · unfold t3_2097146; repeat' split
    all_goals rfl
  · unfold t3_2097146 at h; split at h
    case h_2 => cases h
    split at h
    case h_2 => cases h
    rename_i hq
    have hq := FT.sames_eq _ _ hq
    subst hq
    split at h
    case h_2 => cases h
    rename_i hq
    have hq := FT.sames_eq _ _ hq
    subst hq
    split at h
    case h_2 => cases h
    rename_i hq
    have hq := FT.sames_eq _ _ hq
    subst hq
    split at h
    case h_2 => cases h
    rename_i hq
    have hq := FT.sames_eq _ _ hq
    subst hq
    exact (e3_2097146 fu n R K _ _ _ _ _ _ _ _ _ _ _ _).symm.trans h


noncomputable def F3 {R : Type} (fu : Nat) (l : List (List D)) (more : List (List D)) (k0 : Bool → Option R) : Option R :=
  F4 fu l fun o_0 => bif !o_0 then F5 fu ((k0 true)) else bif decide (60 < ofN more.length) then F5 fu ((k0 true)) else F6 fu 0 0 fun o_1 o_2 => F7 fu 0 0 fun o_3 => F3_250 fu l (ofN l.length) fu 0 o_1 o_2 [] (cell 0 o_3).toInt (cell 1 o_3).toInt (cell 2 o_3).toRows fun o_4 o_5 o_6 o_7 o_8 o_9 => F9 fu o_4 o_5 o_6 (F10 fu more fun o_10 => F12 fu o_4 o_5 o_6 (F11v fu fu o_4 0 o_4 o_5 o_6 o_10 fun o_11 o_12 o_13 => F13 fu [D.int 77, D.str (ByteArray.mk #[])] o_4 o_5 o_13 fun o_14 o_15 => F15 fu o_4 o_5 o_15 fun o_16 => F14 fu o_16 o_4 o_5 o_15 fun o_17 o_18 o_19 o_20 => F12 fu o_4 o_5 o_6 (F16 fu (IntKind.i64.wrap (o_4 + 1)) 400 o_4 o_5 o_6 fun o_21 => F3_65530 fu (ofN o_21.length) fu 0 o_21 (F6 fu 0 0 fun o_22 o_23 => F11v fu fu 0 0 o_22 o_23 [] o_10 fun o_24 o_25 o_26 => F3_1048570 fu (ofN o_10.length) fu 0 o_10 (F3_2097146 fu more (ofN more.length) o_22 o_23 o_26 fu 0 ((k0 false)) (F18 fu [D.int o_7, D.int o_8, D.row o_9] o_4 o_5 o_6 fun o_27 => bif o_27 then F5 fu ((k0 true)) else (k0 false)))))))

noncomputable def pc3 (fu : Nat) : Nat → Option ToldP := fun p => match Nat.beq p 250 with | true => some (ghP 0 [.live (bitsM 35 0x700000062), .fzP 1 [] ft0, .fzP 32 [] ft2, .gc, .fzC 0 2 ft0, .fzC 1 2 ft0, .gc] (pkP (bitsM 35 0x700000062) (t3_250 fu fu))) | false => match Nat.beq p 65530 with | true => some (ghP 0 [.live (bitsM 72 0xc00000000000000c62), .fzP 1 [] ft0, .ownP 10 [] ft0, .ownP 11 [] ft0, .gc, .fzC 0 2 ft0, .fzC 1 2 ft0, .gc] (pkP (bitsM 72 0xc00000000000000c62) (t3_65530 fu fu))) | false => match Nat.beq p 1048570 with | true => some (ghP 0 [.live (bitsM 88 0xc000000000000000002462), .fzP 1 [] ft0, .ownP 10 [] ft0, .gc, .fzC 0 2 ft0, .fzC 1 2 ft0, .fzC 3 2 ft0, .gc] (pkP (bitsM 88 0xc000000000000000002462) (t3_1048570 fu fu))) | false => match Nat.beq p 2097146 with | true => some (ghP 0 [.live (bitsM 98 0x3800000000000000000002060), .fzP 95 [] ft0, .gc, .fzC 0 2 ft0, .fzC 1 2 ft0, .fzC 2 2 ft0, .gc] (pkP (bitsM 98 0x3800000000000000000002060) (t3_2097146 fu fu))) | false => none
noncomputable def t3 (fu : Nat) : ToldF := fun _ args s K => match args, s with
  | [.fz zq0 l false, .fz zq1 more false], [] => (match FT.sames zq0 ft2 with | true => (match FT.sames zq1 ft0 with | true => F3 fu l more (fun o_ => K (.bool o_) []) | false => none) | false => none)
  | _, _ => none

theorem e3 (R : Type) (K : UV → USt → Option R) (fu : Nat) (l : List (List D)) (more : List (List D)) :
    F3 fu l more (fun o_ => K (.bool o_) []) = ufun Try.prog ⟨(tb11v fu), pc3 fu⟩ 300 3 [.fz ft2 l false, .fz ft0 more false] [] (funK 0 [.gc] K) := by kernel_rfl

theorem s3 (fu : Nat) : Tells Try.prog 3 (t3 fu) := by
  refine ufun_sound (T := ⟨(tb11v fu), pc3 fu⟩) (m := 0) (gout := [.gc]) (k := 300) (tb11v_sound fu) (fun fn body hf hb => ?_) (fun R args s K r h => ?_) (fun R args s K r h => ?_)
  · have hc : body = code3 := by
      have h1 : Try.prog.funcs[3]? = some Try.f3 := rfl
      rw [h1] at hf; cases hf
      have h2 : Try.f3.body = some code3 := rfl
      rw [h2] at hb; cases hb; rfl
    subst hc
    exact fun p told h b hb => by
      replace h : pc3 fu p = some told := h
      unfold pc3 at h
      split at h
      · rename_i hp
        cases h
        have := Nat.eq_of_beq_eq_true hp
        subst this
        rw [a3_250] at hb
        cases hb
        exact ghP_sound (s3_250 fu _)
      ·
        split at h
        · rename_i hp
          cases h
          have := Nat.eq_of_beq_eq_true hp
          subst this
          rw [a3_65530] at hb
          cases hb
          exact ghP_sound (s3_65530 fu _)
        ·
          split at h
          · rename_i hp
            cases h
            have := Nat.eq_of_beq_eq_true hp
            subst this
            rw [a3_1048570] at hb
            cases hb
            exact ghP_sound (s3_1048570 fu _)
          ·
            split at h
            · rename_i hp
              cases h
              have := Nat.eq_of_beq_eq_true hp
              subst this
              rw [a3_2097146] at hb
              cases hb
              exact ghP_sound (s3_2097146 fu _)
            ·
              cases h

  · unfold t3 at h; split at h
    · rfl
    · cases h
  · unfold t3 at h; split at h
    case h_2 => cases h
    split at h
    case h_2 => cases h
    rename_i hq
    have hq := FT.sames_eq _ _ hq
    subst hq
    split at h
    case h_2 => cases h
    rename_i hq
    have hq := FT.sames_eq _ _ hq
    subst hq
    exact (e3 R K fu _ _).symm.trans h

noncomputable def tb3 (fu : Nat) : FuncId → Option (Bool × ToldF) := fun f => match Nat.beq f 3 with
  | true => some (false, ghG [.fzP 0 [] ft2, .fzP 1 [] ft0] (t3 fu))
  | false => (tb11v fu) f
theorem tb3_sound (fu : Nat) : SoundF' Try.prog (tb3 fu) := by
  intro f own told h
  unfold tb3 at h
  split at h
  · rename_i hb
    cases h
    have := Nat.eq_of_beq_eq_true hb
    subst this
    exact ghG_sound (s3 fu)
  · exact (tb11v_sound fu) f own told h

end Go.Proofs.Ytkefbcnibffekaa.V

/- From the plain law of function 3 to V's. -/
namespace Go.Proofs.Ytkefbcnibffekaa.V

theorem law3 (fu : Nat) (H : ∀ (ds1 ds2 : List D), WFDs [FT.row 48 [FT.int IntKind.i64, FT.int IntKind.i64, FT.int IntKind.i64, FT.row 24 [FT.int IntKind.i64, FT.str]]] ds1 → WFDs [FT.row 24 [FT.int IntKind.i64, FT.str]] ds2 → F3 fu ((cell 0 ds1).toRows) ((cell 0 ds2).toRows) (fun o => some o) = some true) : Law Try.prog 3 Try.f3.params.toList := by
  refine law_of_told (by kernel_rfl) (by kernel_rfl) seatX_sound (s3 fu) (fun dss hw => ?_)
  have hts : Try.f3.params.toList = [22, 23] := rfl
  rw [hts] at hw
  cases hw with
  | cons t1 ts1 fts1 ds1 dss1 hf1 hd1 hr1 =>
    have e1 : flat Try.prog 20 22 = some [FT.row 48 [FT.int IntKind.i64, FT.int IntKind.i64, FT.int IntKind.i64, FT.row 24 [FT.int IntKind.i64, FT.str]]] := by kernel_rfl
    rw [e1] at hf1; cases hf1
    cases hr1 with
    | cons t2 ts2 fts2 ds2 dss2 hf2 hd2 hr2 =>
      have e2 : flat Try.prog 20 23 = some [FT.row 24 [FT.int IntKind.i64, FT.str]] := by kernel_rfl
      rw [e2] at hf2; cases hf2
      cases hr2
      have h1 : t3 fu Bool (argsU Try.prog Try.f3.params.toList [ds1, ds2]) [] boolK = F3 fu ((cell 0 ds1).toRows) ((cell 0 ds2).toRows) (fun o => some o) := by kernel_rfl
      exact h1.trans (H ds1 ds2 hd1 hd2)
end Go.Proofs.Ytkefbcnibffekaa.V

/- Words that all plain proofs use. -/
namespace Go.Proofs.Ytkefbcnibffekaa.V

theorem wrap_of {x : Int} (h0 : -9223372036854775808 ≤ x) (h1 : x ≤ 9223372036854775807) : IntKind.i64.wrap x = x := by
  rw [IntKind.wrap_i64]; omega

theorem wrap_succ {i : Nat} (h : i ≤ 9223372036854775806) : IntKind.i64.wrap ((i : Int) + 1) = ((i + 1 : Nat) : Int) := by rw [wrap_of (by omega) (by omega)]; rfl

theorem fits_of {n b : Nat} (hn : n ≤ 1000000) (hb : b ≤ 1000) : fits n b = true := by
  unfold fits maxBytes
  have : n * b ≤ 1000000 * 1000 := Nat.mul_le_mul hn hb
  exact decide_eq_true ⟨by omega, by omega⟩

theorem within_of {j n : Nat} (h : j < n) : within (j : Int) n = true := by
  unfold within; exact decide_eq_true ⟨by omega, by omega⟩

theorem within_int {j : Int} {n : Nat} (h0 : 0 ≤ j) (h : j < n) : within j n = true := by
  unfold within; exact decide_eq_true ⟨h0, by omega⟩

theorem lt_true {a b : Int} (h : a < b) : decide (a < b) = true := decide_eq_true h
theorem lt_false {a b : Int} (h : ¬ a < b) : decide (a < b) = false := decide_eq_false h
theorem le_true {a b : Int} (h : a ≤ b) : decide (a ≤ b) = true := decide_eq_true h
theorem le_false {a b : Int} (h : ¬ a ≤ b) : decide (a ≤ b) = false := decide_eq_false h
theorem eq_true {a b : Int} (h : a = b) : decide (a = b) = true := decide_eq_true h
theorem eq_false {a b : Int} (h : ¬ a = b) : decide (a = b) = false := decide_eq_false h

theorem strEq_refl (x : ByteArray) : strEq x x = true := by simp [strEq]

theorem elem_mem {i : Nat} {l : List (List D)} (h : i < l.length) : elem i l ∈ l := by
  unfold elem
  rw [List.getD_eq_getElem?_getD, List.getElem?_eq_getElem h]
  exact List.getElem_mem h

/-- Sizes of data as it comes. -/
theorem WFD.rows_len {bytes : Nat} {fts : List FT} {d : D} (h : WFD (.row bytes fts) d) : d.toRows.length * bytes ≤ reachBytes := by
  cases h with
  | nil => simp [D.toRows]
  | row _ _ rows hb hl hr => simp only [D.toRows]; first | exact hb | (simpa using hb)

theorem WFD.str_len {d : D} (h : WFD .str d) : d.toStr.size ≤ reachBytes := by
  cases h with
  | str s h => exact h

theorem WFD.rows {bytes : Nat} {fts : List FT} {d : D} (h : WFD (.row bytes fts) d) : ∀ r ∈ d.toRows, WFDs fts r := by
  cases h with
  | nil => intro r hr; cases hr
  | row _ _ rows hb hl hr =>
    intro r hm
    refine ⟨hl r hm, fun j ft d h1 h2 => hr r hm j ft d h1 h2⟩

theorem WFDs.cell {fts : List FT} {ds : List D} (h : WFDs fts ds) {j : Nat} {ft : FT} (hj : fts[j]? = some ft) : WFD ft (V.cell j ds) := by
  have hlt : j < ds.length := by rw [h.len]; exact (List.getElem?_eq_some_iff.1 hj).1
  have hd := List.getElem?_eq_getElem hlt
  unfold V.cell
  rw [List.getD_eq_getElem?_getD, hd]
  exact h.at_ j ft _ hj hd

theorem reach_lt : reachBytes < 140737488355328 := by decide

end Go.Proofs.Ytkefbcnibffekaa.V

/- entry: what its functions tell. -/
namespace Go.Proofs.Ytkefbcnibffekaa.V
variable {R : Type}

/-- An entry, cell by cell. -/
abbrev NE (r : List D) : List D := [D.int (cell 0 r).toInt, D.str (cell 1 r).toStr]

theorem part_all (l : List (List D)) : part l 0 l.length = l := by simp [part]

theorem last_ok (fu : Nat) (b t : Int) (l : List (List D)) (k : Int → Option R) (hb : 0 ≤ b) (hb2 : b ≤ 4611686018427387904) (hl : l.length ≤ 1000000) : F15 fu b t l k = k (b + l.length) := by
  unfold F15
  rw [wrap_of (by unfold ofN; omega) (by unfold ofN; omega)]; rfl

theorem add_ok (fu : Nat) (e : List D) (b t : Int) (l : List (List D)) (k : Int → List (List D) → Option R) (hb : 0 ≤ b) (hb2 : b ≤ 4611686018427387904) (hl : l.length ≤ 900000) :
    F13 fu e b t l k = k (b + l.length + 1) (l ++ [NE e]) := by
  unfold F13
  cases l with
  | nil =>
    simp only [List.length_nil, ofN, Int.natCast_zero, decide_true, Bool.and_self, cond_true, List.nil_append]
    rw [last_ok _ _ _ _ _ hb hb2 (by simp)]
    simp [NE]
  | cons x l =>
    rw [eq_false (show ¬ ofN (x :: l).length = 0 by unfold ofN; simp; omega), Bool.and_self, cond_false, eq_true rfl, Bool.and_true]
    have h1 : decide ((0 : Int) ≤ 0 ∧ 0 ≤ ofN (x :: l).length) = true := decide_eq_true ⟨Int.le_refl _, by unfold ofN; omega⟩
    have h2 : upTo (ofN (x :: l).length) (x :: l).length = true := by unfold upTo ofN; exact decide_eq_true ⟨by omega, by simp⟩
    have h3 : part (x :: l) 0 (ofN (x :: l).length).toNat = x :: l := by unfold ofN; rw [Int.toNat_natCast]; exact part_all _
    rw [h1, h2, Bool.and_self, cond_true, h3, fits_of (by omega) (by omega), cond_true, last_ok _ _ _ _ _ hb hb2 (by simp at hl ⊢; omega)]
    simp only [List.length_append, List.length_singleton]
    congr 1
    push_cast; omega

theorem term_out (fu : Nat) (x b t : Int) (l : List (List D)) (k : Int → Bool → Option R) (hb : 0 ≤ b) (hb2 : b ≤ 4611686018427387904) (hl : l.length ≤ 1000000) (h : x < b ∨ b + l.length < x) : F24 fu x b t l k = k 0 false := by
  unfold F24
  by_cases h1 : x < b
  · rw [lt_true h1]; rfl
  · rw [lt_false h1, cond_false, last_ok _ _ _ _ _ hb hb2 hl, lt_true (by omega)]; rfl

theorem term_base (fu : Nat) (b t : Int) (l : List (List D)) (k : Int → Bool → Option R) (hb : 0 ≤ b) (hb2 : b ≤ 4611686018427387904) (hl : l.length ≤ 1000000) : F24 fu b b t l k = k t true := by
  unfold F24
  rw [lt_false (by omega), cond_false, last_ok _ _ _ _ _ hb hb2 hl, lt_false (by omega), cond_false, eq_true rfl]; rfl

theorem term_in (fu : Nat) (i : Nat) (b t : Int) (l : List (List D)) (k : Int → Bool → Option R) (hb : 0 ≤ b) (hb2 : b ≤ 4611686018427387904) (hl : l.length ≤ 1000000) (hi : i < l.length) : F24 fu (b + 1 + i) b t l k = k (cell 0 (elem i l)).toInt true := by
  unfold F24
  have e : IntKind.i64.wrap (IntKind.i64.wrap (b + 1 + i - b) - 1) = (i : Int) := by rw [wrap_of (x := b + 1 + i - b) (by omega) (by omega), wrap_of (by omega) (by omega)]; omega
  rw [lt_false (by omega), cond_false, last_ok _ _ _ _ _ hb hb2 hl, lt_false (by omega), cond_false, eq_false (by omega), cond_false, e, within_of hi, cond_true, Int.toNat_natCast]

theorem get_out (fu : Nat) (x b t : Int) (l : List (List D)) (k : List D → Bool → Option R) (hb : 0 ≤ b) (hb2 : b ≤ 4611686018427387904) (hl : l.length ≤ 1000000) (h : x ≤ b ∨ b + l.length < x) : F17 fu x b t l k = k [D.int 0, D.str { data := #[] }] false := by
  unfold F17
  by_cases h1 : x ≤ b
  · rw [le_true h1]; rfl
  · rw [le_false h1, cond_false, last_ok _ _ _ _ _ hb hb2 hl, lt_true (by omega)]; rfl

theorem get_in (fu : Nat) (i : Nat) (b t : Int) (l : List (List D)) (k : List D → Bool → Option R) (hb : 0 ≤ b) (hb2 : b ≤ 4611686018427387904) (hl : l.length ≤ 1000000) (hi : i < l.length) : F17 fu (b + 1 + i) b t l k = k (elem i l) true := by
  unfold F17
  have e : IntKind.i64.wrap (IntKind.i64.wrap (b + 1 + i - b) - 1) = (i : Int) := by rw [wrap_of (x := b + 1 + i - b) (by omega) (by omega), wrap_of (by omega) (by omega)]; omega
  rw [le_false (by omega), cond_false, last_ok _ _ _ _ _ hb hb2 hl, lt_false (by omega), cond_false, e, within_of hi, cond_true, Int.toNat_natCast]

/-- A term, as the log has it. -/
def termOf (b t : Int) (l : List (List D)) (x : Int) : Int := if x = b then t else (cell 0 (elem (x - b - 1).toNat l)).toInt

theorem pass_out (fu : Nat) (x b t : Int) (l : List (List D)) (k : Int → Int → Int → List (List D) → Option R) (hb : 0 ≤ b) (hb2 : b ≤ 4611686018427387904) (hl : l.length ≤ 1000000) (h : x < b ∨ b + l.length < x) : F14 fu x b t l k = k 1 b t l := by
  unfold F14
  rw [term_out _ _ _ _ _ _ hb hb2 hl h]; rfl

theorem pass_in (fu : Nat) (i : Nat) (b t : Int) (l : List (List D)) (k : Int → Int → Int → List (List D) → Option R) (hb : 0 ≤ b) (hb2 : b ≤ 4611686018427387904) (hl : l.length ≤ 900000) (hi : i ≤ l.length) :
    F14 fu (b + i) b t l k = k 0 (b + i) (termOf b t l (b + i)) (l.drop i) := by
  unfold F14
  have ht : ∀ (kk : Int → Bool → Option R), F24 fu (b + i) b t l kk = kk (termOf b t l (b + i)) true := by
    intro kk
    cases i with
    | zero => rw [show b + ((0 : Nat) : Int) = b by simp, term_base _ _ _ _ _ hb hb2 (by omega)]; simp [termOf]
    | succ i =>
      rw [show b + ((i + 1 : Nat) : Int) = b + 1 + i by push_cast; omega, term_in _ _ _ _ _ _ hb hb2 (by omega) (by omega)]
      unfold termOf
      rw [if_neg (by omega), show (b + 1 + (i : Int) - b - 1).toNat = i by omega]
  rw [ht]
  have e : IntKind.i64.wrap (b + i - b) = (i : Int) := by rw [wrap_of (by omega) (by omega)]; omega
  have h1 : decide ((0 : Int) ≤ (i : Int) ∧ (i : Int) ≤ ofN l.length) = true := decide_eq_true ⟨by omega, by unfold ofN; omega⟩
  have h2 : upTo (ofN l.length) l.length = true := by unfold upTo ofN; exact decide_eq_true ⟨by omega, by simp⟩
  have h3 : part l (i : Int).toNat (ofN l.length).toNat = l.drop i := by unfold ofN part; simp
  rw [e, h1, h2, h3, fits_of (by simp; omega) (by omega)]
  rfl
end Go.Proofs.Ytkefbcnibffekaa.V

/- entry: rows. -/
namespace Go.Proofs.Ytkefbcnibffekaa.V
variable {R : Type}
theorem elem_map (f : List D → List D) (l : List (List D)) {i : Nat} (h : i < l.length) : elem i (l.map f) = f (elem i l) := by
  unfold elem
  simp [List.getD_eq_getElem?_getD, List.getElem?_eq_getElem h]

theorem elem_drop (n : Nat) (l : List (List D)) (i : Nat) : elem i (l.drop n) = elem (n + i) l := by
  unfold elem
  simp [List.getD_eq_getElem?_getD]

theorem take_map_succ (f : List D → List D) (l : List (List D)) {i : Nat} (h : i < l.length) : (l.take i).map f ++ [f (elem i l)] = (l.take (i + 1)).map f := by
  have he : elem i l = l[i] := by unfold elem; rw [List.getD_eq_getElem?_getD, List.getElem?_eq_getElem h]; rfl
  rw [he, List.take_succ_eq_append_getElem h, List.map_append]
  rfl

end Go.Proofs.Ytkefbcnibffekaa.V

/- entry: merging, passing, the document's log beside the program's. -/
namespace Go.Proofs.Ytkefbcnibffekaa.V
variable {R : Type}

theorem upTo_of {i : Int} {n : Nat} (h0 : 0 ≤ i) (h : i ≤ n) : upTo i n = true := by
  unfold upTo; exact decide_eq_true ⟨h0, by omega⟩

theorem part_take (l : List (List D)) (n : Nat) : part l 0 n = l.take n := by simp [part]
theorem part_drop (l : List (List D)) (n : Nat) : part l n l.length = l.drop n := by simp [part]

theorem drop_elem {l : List (List D)} {i : Nat} (h : i < l.length) : l.drop i = elem i l :: l.drop (i + 1) := by
  have he : elem i l = l[i] := by unfold elem; rw [List.getD_eq_getElem?_getD, List.getElem?_eq_getElem h]; rfl
  rw [he]; exact List.drop_eq_getElem_cons h

theorem cl0 (b t : Int) (l : List (List D)) : (cell 0 [D.int b, D.int t, D.row l]).toInt = b := of_eq_true (eq_self _)
theorem cl1 (b t : Int) (l : List (List D)) : (cell 1 [D.int b, D.int t, D.row l]).toInt = t := of_eq_true (eq_self _)
theorem cl2 (b t : Int) (l : List (List D)) : (cell 2 [D.int b, D.int t, D.row l]).toRows = l := of_eq_true (eq_self _)

theorem term_ok (fu : Nat) (x b t : Int) (l : List (List D)) (k : Int → Bool → Option R) (hb : 0 ≤ b) (hb2 : b ≤ 4611686018427387904) (hl : l.length ≤ 1000000) (h0 : b ≤ x) (h1 : x ≤ b + l.length) :
    F24 fu x b t l k = k (termOf b t l x) true := by
  obtain ⟨i, rfl⟩ : ∃ i : Nat, x = b + i := ⟨(x - b).toNat, by omega⟩
  cases i with
  | zero => rw [show b + ((0 : Nat) : Int) = b by simp, term_base _ _ _ _ _ hb hb2 hl]; simp [termOf]
  | succ i =>
    rw [show b + ((i + 1 : Nat) : Int) = b + 1 + i by push_cast; omega, term_in _ _ _ _ _ _ hb hb2 hl (by omega)]
    unfold termOf
    rw [if_neg (by omega), show (b + 1 + (i : Int) - b - 1).toNat = i by omega]

theorem rlast_ok (fu : Nat) (b t : Int) (l : List (List D)) (k : Int → Option R) (hb : 0 ≤ b) (hb2 : b ≤ 4611686018427387904) (hl : l.length ≤ 1000000) : F20 fu [D.int b, D.int t, D.row l] k = k (b + l.length) := by
  unfold F20
  rw [cl0, cl2, wrap_of (by unfold ofN; omega) (by unfold ofN; omega)]; rfl

theorem rterm_ok (fu : Nat) (x b t : Int) (l : List (List D)) (k : Int → Bool → Option R) (hb : 0 ≤ b) (hb2 : b ≤ 4611686018427387904) (hl : l.length ≤ 1000000) (h0 : b ≤ x) (h1 : x ≤ b + l.length) :
    F25 fu [D.int b, D.int t, D.row l] x k = k (termOf b t l x) true := by
  unfold F25
  simp only [cl0, cl1, cl2]
  by_cases h : x = b
  · rw [eq_true h, cond_true]; unfold termOf; rw [if_pos h]
  · have e : IntKind.i64.wrap (IntKind.i64.wrap (x - b) - 1) = x - b - 1 := by rw [wrap_of (x := x - b) (by omega) (by omega), wrap_of (by omega) (by omega)]
    rw [eq_false h, cond_false, lt_false (by omega), cond_false, rlast_ok _ _ _ _ _ hb hb2 hl, lt_false (by omega), cond_false, e, within_int (by omega) (by omega), cond_true]
    unfold termOf; rw [if_neg h]

theorem rterm_out (fu : Nat) (x b t : Int) (l : List (List D)) (k : Int → Bool → Option R) (hb : 0 ≤ b) (hb2 : b ≤ 4611686018427387904) (hl : l.length ≤ 1000000) (h : x < b ∨ b + l.length < x) :
    F25 fu [D.int b, D.int t, D.row l] x k = k 0 false := by
  unfold F25
  simp only [cl0, cl1, cl2]
  rw [eq_false (by omega), cond_false]
  by_cases h1 : x < b
  · rw [lt_true h1]; rfl
  · rw [lt_false h1, cond_false, rlast_ok _ _ _ _ _ hb hb2 hl, lt_true (by omega)]; rfl

/-- Entries that come, from a place on. -/
def mergeL : Nat → List (List D) → List (List D) → List (List D)
  | _, [], out => out
  | p, e :: more, out => if p < out.length ∧ (cell 0 (elem p out)).toInt = (cell 0 e).toInt then mergeL (p + 1) more out else mergeL (p + 1) more (out.take p ++ [NE e])

theorem mergeL_len : ∀ (more : List (List D)) (p : Nat) (out : List (List D)), (mergeL p more out).length ≤ max out.length (p + more.length)
  | [], p, out => by unfold mergeL; omega
  | e :: more, p, out => by
    unfold mergeL
    simp only [List.length_cons]
    split
    · have := mergeL_len more (p + 1) out; omega
    · have := mergeL_len more (p + 1) (out.take p ++ [NE e])
      simp only [List.length_append, List.length_take, List.length_singleton] at this
      omega

theorem mergeL_map : ∀ (more : List (List D)) (p : Nat) (out : List (List D)), mergeL p (more.map NE) out = mergeL p more out
  | [], p, out => rfl
  | e :: more, p, out => by
    rw [List.map_cons]
    unfold mergeL
    rw [mergeL_map more, mergeL_map more]
    rfl

theorem rmerge_loop (fu : Nat) (b : Int) (p : Nat) (more : List (List D)) (hb : 0 ≤ b) (hb2 : b ≤ 4611686018427387904) (hm : p + more.length ≤ 900000) (k : List (List D) → Option R) : ∀ (n i : Nat) (out : List (List D)), more.length + 1 ≤ i + n → i ≤ more.length → out.length ≤ 900000 →
    F21_1018 fu (b + p) more b n (i : Int) out k = k (mergeL (p + i) (more.drop i) out) := by
  intro n
  induction n with
  | zero => intro i out h1 h2; omega
  | succ n ih =>
    intro i out h1 h2 h3
    unfold F21_1018
    by_cases hi : i < more.length
    · have hw : IntKind.i64.wrap (IntKind.i64.wrap (b + p - b) + i) = ((p + i : Nat) : Int) := by
        rw [wrap_of (x := b + p - b) (by omega) (by omega), wrap_of (by omega) (by omega)]; push_cast; omega
      have hlt : decide ((i : Int) < ofN more.length) = true := lt_true (by unfold ofN; omega)
      rw [drop_elem hi]
      simp only [hw, hlt, cond_true, within_of hi, Int.toNat_natCast, wrap_succ (show i ≤ 9223372036854775806 by omega)]
      unfold mergeL
      by_cases h4 : p + i < out.length
      · have hl2 : decide (((p + i : Nat) : Int) < ofN out.length) = true := lt_true (by unfold ofN; omega)
        simp only [hl2, cond_true, within_of h4]
        by_cases h5 : (cell 0 (elem (p + i) out)).toInt = (cell 0 (elem i more)).toInt
        · rw [eq_true h5, cond_true, if_pos ⟨h4, h5⟩]
          have := ih (i + 1) out (by omega) (by omega) h3
          rw [this]; rfl
        · have hz : decide ((0 : Int) ≤ 0 ∧ (0 : Int) ≤ ((p + i : Nat) : Int)) = true := decide_eq_true ⟨by omega, by omega⟩
          rw [eq_false h5, cond_false, if_neg (fun h => h5 h.2)]
          have ht : (out.take (p + i)).length = p + i := by rw [List.length_take]; omega
          simp only [hz, upTo_of (show (0 : Int) ≤ ((p + i : Nat) : Int) by omega) (show ((p + i : Nat) : Int) ≤ (out.length : Int) by omega), Bool.and_self, cond_true, part_take, ht, fits_of (show 0 + (p + i) ≤ 1000000 by omega) (show 24 ≤ 1000 by omega), fits_of (show p + i + 1 ≤ 1000000 by omega) (show 24 ≤ 1000 by omega)]
          have := ih (i + 1) (out.take (p + i) ++ [NE (elem i more)]) (by omega) (by omega) (by rw [List.length_append, ht, List.length_singleton]; omega)
          exact this
      · have hl2 : decide (((p + i : Nat) : Int) < ofN out.length) = false := lt_false (by unfold ofN; omega)
        simp only [hl2, cond_false]
        rw [if_neg (fun h => h4 h.1), fits_of (by omega) (by omega), cond_true, List.take_of_length_le (by omega)]
        by_cases h6 : p + i ≤ out.length + 900000
        · exact ih (i + 1) (out ++ [NE (elem i more)]) (by omega) (by omega) (by rw [List.length_append, List.length_singleton]; omega)
        · omega
    · have hlt : decide ((i : Int) < ofN more.length) = false := lt_false (by unfold ofN; omega)
      rw [hlt, cond_false, show i = more.length by omega, List.drop_length]
      rfl

theorem merge_loop (fu : Nat) (b t : Int) (p : Nat) (x : List (List D)) (hb : 0 ≤ b) (hb2 : b ≤ 1000000000) (hm : p + x.length ≤ 900000) (k : List (List D) → Option R) : ∀ (n i : Nat) (out : List (List D)), x.length + 1 ≤ i + n → i ≤ x.length → out.length ≤ 900000 →
    F11_250 fu (b + p) x (ofN x.length) b t n (i : Int) out k = k (mergeL (p + i) (x.drop i) out) := by
  intro n
  induction n with
  | zero => intro i out h1 h2; omega
  | succ n ih =>
    intro i out h1 h2 h3
    unfold F11_250
    by_cases hi : i < x.length
    · have hw : IntKind.i64.wrap (IntKind.i64.wrap (b + p + 1) + i) = b + 1 + ((p + i : Nat) : Int) := by
        rw [wrap_of (x := b + p + 1) (by omega) (by omega), wrap_of (by omega) (by omega)]; push_cast; omega
      have hw2 : IntKind.i64.wrap (IntKind.i64.wrap (b + 1 + ((p + i : Nat) : Int) - b) - 1) = ((p + i : Nat) : Int) := by
        rw [wrap_of (x := b + 1 + ((p + i : Nat) : Int) - b) (by omega) (by omega), wrap_of (by omega) (by omega)]; omega
      have hmin : (if ofN out.length < ((p + i : Nat) : Int) then ofN out.length else ((p + i : Nat) : Int)) = ((min out.length (p + i) : Nat) : Int) := by
        unfold ofN; split <;> omega
      have hlt : decide ((i : Int) < ofN x.length) = true := lt_true (by unfold ofN; omega)
      have hz : decide ((0 : Int) ≤ 0 ∧ (0 : Int) ≤ ((min out.length (p + i) : Nat) : Int)) = true := decide_eq_true ⟨by omega, by omega⟩
      have hu : upTo ((min out.length (p + i) : Nat) : Int) out.length = true := upTo_of (by omega) (by omega)
      have htk : out.take (min out.length (p + i)) = out.take (p + i) := by
        by_cases h : p + i ≤ out.length
        · rw [Nat.min_eq_right h]
        · rw [Nat.min_eq_left (by omega), List.take_of_length_le (Nat.le_refl _), List.take_of_length_le (by omega)]
      have hln : (out.take (p + i)).length ≤ p + i := by rw [List.length_take]; omega
      have hadd : ∀ kk : Int → List (List D) → Option R, F13 fu [D.int (cell 0 (elem i x)).toInt, D.str (cell 1 (elem i x)).toStr] b t (out.take (p + i)) kk = kk (b + (out.take (p + i)).length + 1) (out.take (p + i) ++ [NE (elem i x)]) :=
        fun kk => add_ok fu _ b t _ kk hb (by omega) (by omega)
      have hnext := ih (i + 1) (out.take (p + i) ++ [NE (elem i x)]) (by omega) (by omega) (by rw [List.length_append, List.length_singleton]; omega)
      rw [drop_elem hi]
      simp only [hw, hw2, hmin, hlt, hz, hu, cond_true, within_of hi, Int.toNat_natCast, wrap_succ (show i ≤ 9223372036854775806 by omega), Bool.and_self, part_take, htk, hadd]
      unfold mergeL
      by_cases h4 : p + i < out.length
      · rw [term_in _ _ _ _ _ _ hb (by omega) (by omega) h4, cond_true]
        by_cases h5 : (cell 0 (elem (p + i) out)).toInt = (cell 0 (elem i x)).toInt
        · rw [eq_true h5, cond_true, if_pos ⟨h4, h5⟩]
          exact ih (i + 1) out (by omega) (by omega) h3
        · rw [eq_false h5, cond_false, if_neg (fun h => h5 h.2)]
          exact hnext
      · rw [term_out _ _ _ _ _ _ hb (by omega) (by omega) (.inr (by omega)), cond_false, if_neg (fun h => h4 h.1)]
        exact hnext
    · have hlt : decide ((i : Int) < ofN x.length) = false := lt_false (by unfold ofN; omega)
      rw [hlt, cond_false, show i = x.length by omega, List.drop_length]
      rfl

/-- What Merge makes of a log. -/
def mergeR (b t : Int) (l : List (List D)) (a tm : Int) (more : List (List D)) : Int × Bool × List (List D) :=
  if a < b then (if (more.length : Int) ≤ b - a then (a + more.length, true, l) else (a + more.length, true, mergeL 0 (more.drop (b - a).toNat) l))
  else if b + l.length < a then (0, false, l) else if termOf b t l a = tm then (a + more.length, true, mergeL (a - b).toNat more l) else (0, false, l)

theorem mergeR_map (b t : Int) (l : List (List D)) (a tm : Int) (more : List (List D)) : mergeR b t l a tm (more.map NE) = mergeR b t l a tm more := by
  unfold mergeR
  rw [List.length_map, ← List.map_drop, mergeL_map, mergeL_map]

theorem merge_in (fu n : Nat) (a tm b t : Int) (l more : List (List D)) (k : Int → Bool → List (List D) → Option R) (hb : 0 ≤ b) (hb2 : b ≤ 1000000000) (hl : l.length ≤ 10000) (hm : more.length ≤ 10000) (hab : b ≤ a) (ha2 : a ≤ 1099511627776) (hf : more.length + 1 ≤ fu) :
    F11 fu (n + 1) a tm more b t l k = k (mergeR b t l a tm more).1 (mergeR b t l a tm more).2.1 (mergeR b t l a tm more).2.2 := by
  unfold F11 mergeR
  rw [lt_false (show ¬ a < 0 by omega), cond_false, lt_false (show ¬ a < b by omega), cond_false, if_neg (show ¬ a < b by omega)]
  by_cases h1 : b + l.length < a
  · rw [term_out _ _ _ _ _ _ hb (by omega) (by omega) (.inr h1), if_pos h1]; rfl
  · rw [term_ok _ _ _ _ _ _ hb (by omega) (by omega) hab (by omega), if_neg h1, Bool.not_true, cond_false]
    by_cases h2 : termOf b t l a = tm
    · rw [eq_true h2, Bool.not_true, cond_false, if_pos h2]
      have := merge_loop fu b t (a - b).toNat more hb hb2 (by omega) (fun o_5 => k (IntKind.i64.wrap (a + ofN more.length)) true o_5) fu 0 l (by omega) (by omega) (by omega)
      rw [show b + ((a - b).toNat : Int) = a by omega] at this
      refine this.trans ?_
      rw [wrap_of (by unfold ofN; omega) (by unfold ofN; omega)]; rfl
    · rw [eq_false h2, Bool.not_false, cond_true, if_neg h2]

theorem merge_ok (fu n : Nat) (a tm b t : Int) (l more : List (List D)) (k : Int → Bool → List (List D) → Option R) (hb : 0 ≤ b) (hb2 : b ≤ 1000000000) (hl : l.length ≤ 10000) (hm : more.length ≤ 10000) (ha : 0 ≤ a) (ha2 : a ≤ 1099511627776) (hf : more.length + 1 ≤ fu) :
    F11 fu (n + 2) a tm more b t l k = k (mergeR b t l a tm more).1 (mergeR b t l a tm more).2.1 (mergeR b t l a tm more).2.2 := by
  by_cases hab : b ≤ a
  · exact merge_in fu (n + 1) a tm b t l more k hb hb2 hl hm hab ha2 hf
  · unfold F11 mergeR
    have hw : IntKind.i64.wrap (b - a) = b - a := wrap_of (by omega) (by omega)
    rw [lt_false (show ¬ a < 0 by omega), cond_false, lt_true (show a < b by omega), cond_true, if_pos (show a < b by omega), hw]
    by_cases h1 : (more.length : Int) ≤ b - a
    · rw [le_true (show ofN more.length ≤ b - a from h1), cond_true, if_pos h1, wrap_of (by unfold ofN; omega) (by unfold ofN; omega)]; rfl
    · have hz : decide ((0 : Int) ≤ b - a ∧ b - a ≤ ofN more.length) = true := decide_eq_true ⟨by omega, by unfold ofN; omega⟩
      have hp : part more (b - a).toNat (ofN more.length).toNat = more.drop (b - a).toNat := by unfold ofN; rw [Int.toNat_natCast]; exact part_drop _ _
      rw [le_false (show ¬ ofN more.length ≤ b - a from h1), cond_false, if_neg h1, hz, upTo_of (by unfold ofN; omega) (by unfold ofN; omega), Bool.and_self, cond_true, hp]
      have hdl : (more.drop (b - a).toNat).length = more.length - (b - a).toNat := List.length_drop
      rw [merge_in fu n b t b t l _ _ hb hb2 hl (by omega) (by omega) (by omega) (by omega)]
      unfold mergeR
      rw [if_neg (show ¬ b < b by omega), if_neg (show ¬ b + (l.length : Int) < b by omega), if_pos (show termOf b t l b = t by unfold termOf; rw [if_pos rfl]), hdl, show (b - b).toNat = 0 by omega]
      show k (b + ((more.length - (b - a).toNat : Nat) : Int)) true _ = _
      rw [show b + ((more.length - (b - a).toNat : Nat) : Int) = a + more.length by omega]

theorem merge_neg (fu n : Nat) (a tm b t : Int) (l more : List (List D)) (k : Int → Bool → List (List D) → Option R) (ha : a < 0) : F11 fu (n + 1) a tm more b t l k = k 0 false l := by
  unfold F11
  rw [lt_true ha]; rfl

theorem rmerge_ok (fu : Nat) (a tm b t : Int) (l more : List (List D)) (k : List D → Int → Bool → Option R) (hb : 0 ≤ b) (hb2 : b ≤ 1000000000) (hl : l.length ≤ 10000) (hm : more.length ≤ 10000) (ha : 0 ≤ a) (ha2 : a ≤ 1099511627776) (hf : more.length + 1 ≤ fu) :
    F21 fu [D.int b, D.int t, D.row l] a tm more k = k [D.int b, D.int t, D.row (mergeR b t l a tm more).2.2] (mergeR b t l a tm more).1 (mergeR b t l a tm more).2.1 := by
  unfold F21 mergeR
  simp only [cl0, cl1, cl2]
  have hwl : IntKind.i64.wrap (a + ofN more.length) = a + more.length := by rw [wrap_of (by unfold ofN; omega) (by unfold ofN; omega)]; rfl
  have hfit : fits (0 + l.length) 24 = true := fits_of (by omega) (by omega)
  rw [hwl, hfit]
  by_cases hab : a < b
  · have hw : IntKind.i64.wrap (b - a) = b - a := wrap_of (by omega) (by omega)
    rw [lt_true hab, cond_true, if_pos hab, hw]
    by_cases h1 : (more.length : Int) ≤ b - a
    · rw [le_true (show ofN more.length ≤ b - a from h1), cond_true, if_pos h1]
    · have hz : decide ((0 : Int) ≤ b - a ∧ b - a ≤ ofN more.length) = true := decide_eq_true ⟨by omega, by unfold ofN; omega⟩
      have hp : part more (b - a).toNat (ofN more.length).toNat = more.drop (b - a).toNat := by unfold ofN; rw [Int.toNat_natCast]; exact part_drop _ _
      have hdl : (more.drop (b - a).toNat).length = more.length - (b - a).toNat := List.length_drop
      rw [le_false (show ¬ ofN more.length ≤ b - a from h1), cond_false, if_neg h1, hz, upTo_of (by unfold ofN; omega) (by unfold ofN; omega), Bool.and_self, cond_true, hp]
      rw [rterm_ok _ _ _ _ _ _ hb (by omega) (by omega) (by omega) (by omega)]
      rw [show termOf b t l b = t by unfold termOf; rw [if_pos rfl]]
      simp only [Bool.not_true, cond_false, eq_true rfl, cond_true]
      have := rmerge_loop fu b 0 (more.drop (b - a).toNat) hb (by omega) (by omega) (fun o_2 => k [D.int b, D.int t, D.row o_2] (a + more.length) true) fu 0 l (by omega) (by omega) (by omega)
      simp only [Int.natCast_zero, Int.add_zero, Nat.add_zero, List.drop_zero] at this
      exact this
  · rw [lt_false hab, cond_false, if_neg hab]
    by_cases h1 : b + l.length < a
    · rw [rterm_out _ _ _ _ _ _ hb (by omega) (by omega) (.inr h1), if_pos h1]; rfl
    · rw [rterm_ok _ _ _ _ _ _ hb (by omega) (by omega) (by omega) (by omega), if_neg h1, Bool.not_true, cond_false]
      by_cases h2 : termOf b t l a = tm
      · rw [eq_true h2, Bool.not_true, cond_false, cond_true, if_pos h2]
        have := rmerge_loop fu b (a - b).toNat more hb (by omega) (by omega) (fun o_2 => k [D.int b, D.int t, D.row o_2] (a + more.length) true) fu 0 l (by omega) (by omega) (by omega)
        rw [show b + ((a - b).toNat : Int) = a by omega] at this
        exact this
      · rw [eq_false h2, Bool.not_false, cond_true, if_neg h2]

theorem of_loop (fu : Nat) (x : List (List D)) (hx : x.length ≤ 900000) (k : List (List D) → Option R) : ∀ (n i : Nat), x.length + 1 ≤ i + n → i ≤ x.length →
    F10_58 fu x (ofN x.length) n (i : Int) ((x.take i).map NE) k = k (x.map NE) := by
  intro n
  induction n with
  | zero => intro i h1 h2; omega
  | succ n ih =>
    intro i h1 h2
    unfold F10_58
    by_cases hi : i < x.length
    · have hl : ((x.take i).map NE).length = i := by rw [List.length_map, List.length_take]; omega
      rw [lt_true (show (i : Int) < ofN x.length by unfold ofN; omega), cond_true, within_of hi, cond_true, hl, fits_of (by omega) (by omega), cond_true, wrap_succ (by omega), Int.toNat_natCast]
      have := take_map_succ NE x hi
      have h3 := ih (i + 1) (by omega) (by omega)
      rw [← this] at h3
      exact h3
    · rw [lt_false (show ¬ (i : Int) < ofN x.length by unfold ofN; omega), cond_false]
      rw [show i = x.length by omega, List.take_length]

theorem of_ok (fu : Nat) (x : List (List D)) (hx : x.length ≤ 900000) (hf : x.length + 1 ≤ fu) (k : List (List D) → Option R) : F10 fu x k = k (x.map NE) := by
  unfold F10
  exact of_loop fu x hx _ fu 0 (by omega) (by omega)

theorem rpass_out (fu : Nat) (x b t : Int) (l : List (List D)) (k : List D → Int → Option R) (hb : 0 ≤ b) (hb2 : b ≤ 4611686018427387904) (hl : l.length ≤ 1000000) (h : x < b ∨ b + l.length < x) : F22 fu [D.int b, D.int t, D.row l] x k = k [D.int b, D.int t, D.row l] 1 := by
  unfold F22
  simp only [cl0, cl1, cl2]
  rw [rterm_out _ _ _ _ _ _ hb hb2 hl h]; rfl

theorem rpass_in (fu : Nat) (i : Nat) (b t : Int) (l : List (List D)) (k : List D → Int → Option R) (hb : 0 ≤ b) (hb2 : b ≤ 4611686018427387904) (hl : l.length ≤ 900000) (hi : i ≤ l.length) :
    F22 fu [D.int b, D.int t, D.row l] (b + i) k = k [D.int (b + i), D.int (termOf b t l (b + i)), D.row (l.drop i)] 0 := by
  unfold F22
  simp only [cl0, cl1, cl2]
  rw [rterm_ok _ _ _ _ _ _ hb hb2 (by omega) (by omega) (by omega)]
  have e : IntKind.i64.wrap (b + i - b) = (i : Int) := by rw [wrap_of (by omega) (by omega)]; omega
  have h1 : decide ((0 : Int) ≤ (i : Int) ∧ (i : Int) ≤ ofN l.length) = true := decide_eq_true ⟨by omega, by unfold ofN; omega⟩
  have h3 : part l (i : Int).toNat (ofN l.length).toNat = l.drop i := by unfold ofN; rw [Int.toNat_natCast, Int.toNat_natCast]; exact part_drop _ _
  rw [e, h1, h3, upTo_of (by unfold ofN; omega) (by unfold ofN; omega)]
  rfl

theorem adds2_loop (fu : Nat) (b t : Int) (x : List (List D)) (hb : 0 ≤ b) (hb2 : b ≤ 1000000000) (hx : x.length ≤ 10000) (k0 k1 : List (List D) → List (List D) → Option R) : ∀ (n i : Nat) (l : List (List D)), x.length + 1 ≤ i + n → i ≤ x.length → l.length + (x.length - i) ≤ 100000 →
    F8_426 fu x (ofN x.length) b t b t n (i : Int) l l k0 k1 = k1 (l ++ (x.drop i).map NE) (l ++ (x.drop i).map NE) := by
  intro n
  induction n with
  | zero => intro i l h1 h2; omega
  | succ n ih =>
    intro i l h1 h2 h3
    unfold F8_426
    by_cases hi : i < x.length
    · rw [lt_true (show (i : Int) < ofN x.length by unfold ofN; omega), cond_true, within_of hi, cond_true, fits_of (by omega) (by omega), cond_true, fits_of (by omega) (by omega), cond_true, Int.toNat_natCast, add_ok _ _ _ _ _ _ hb (by omega) (by omega)]
      rw [rlast_ok _ _ _ _ _ hb (by omega) (by simp only [List.length_append, List.length_singleton]; omega)]
      rw [eq_true (show b + (l.length : Int) + 1 = b + ((l ++ [[D.int (cell 0 (elem i x)).toInt, D.str (cell 1 (elem i x)).toStr]]).length : Int) by simp only [List.length_append, List.length_singleton]; push_cast; omega), Bool.not_true, cond_false, wrap_succ (by omega)]
      have := ih (i + 1) (l ++ [NE (elem i x)]) (by omega) (by omega) (by simp only [List.length_append, List.length_singleton]; omega)
      have hac : ∀ ys : List (List D), l ++ NE (elem i x) :: ys = l ++ [NE (elem i x)] ++ ys := fun ys => by rw [List.append_assoc]; rfl
      rw [drop_elem hi, List.map_cons, hac ((x.drop (i + 1)).map NE)]
      exact this
    · rw [lt_false (show ¬ (i : Int) < ofN x.length by unfold ofN; omega), cond_false]
      rw [show i = x.length by omega, List.drop_length, List.map_nil, List.append_nil]

/-- A call leaves both logs alike. -/
theorem does_ok (fu : Nat) (o : List D) (b t : Int) (l : List (List D)) (m : Nat) (hfu : 1000 ≤ fu) (h0 : 0 ≤ b) (h1 : b + l.length ≤ m) (hm : m + (cell 3 o).toRows.length ≤ 400) (ha : -1099511627776 ≤ (cell 1 o).toInt) (ha2 : (cell 1 o).toInt ≤ 1099511627776) :
    ∃ (b' t' : Int) (l' : List (List D)) (f : Bool), 0 ≤ b' ∧ b' + l'.length ≤ ((m + (cell 3 o).toRows.length : Nat) : Int) ∧
      ∀ (R : Type) (k : List D → Bool → Int → Int → List (List D) → Option R), F8 fu [D.int b, D.int t, D.row l] o b t l k = k [D.int b', D.int t', D.row l'] f b' t' l' := by
  obtain ⟨fu, rfl⟩ : ∃ n, fu = n + 2 := ⟨fu - 2, by omega⟩
  by_cases k0 : (cell 0 o).toInt = 0
  · refine ⟨b, t, l ++ (cell 3 o).toRows.map NE, true, h0, by simp only [List.length_append, List.length_map]; push_cast; omega, fun R k => ?_⟩
    unfold F8
    rw [eq_true k0, cond_true]
    simp only [cl0, cl1, cl2]
    have := adds2_loop (fu + 2) b t (cell 3 o).toRows h0 (by omega) (by omega) (fun o_0 o_1 => k [D.int b, D.int t, D.row o_1] false b t o_0) (fun o_2 o_3 => k [D.int b, D.int t, D.row o_3] true b t o_2) (fu + 2) 0 l (by omega) (by omega) (by omega)
    exact this
  · by_cases k1 : (cell 0 o).toInt = 1
    · by_cases hneg : (cell 1 o).toInt < 0
      · refine ⟨b, t, l, true, h0, by push_cast; omega, fun R k => ?_⟩
        unfold F8
        rw [eq_false k0, cond_false, eq_true k1, cond_true, lt_true hneg, cond_true, last_ok _ _ _ _ _ h0 (by omega) (by omega), of_ok _ _ (by omega) (by omega), merge_neg _ _ _ _ _ _ _ _ _ hneg]
        rw [Bool.not_false, cond_true, last_ok _ _ _ _ _ h0 (by omega) (by omega), eq_true rfl]
      · refine ⟨b, t, (mergeR b t l (cell 1 o).toInt (cell 2 o).toInt (cell 3 o).toRows).2.2, true, h0, ?_, fun R k => ?_⟩
        · have q : (mergeR b t l (cell 1 o).toInt (cell 2 o).toInt (cell 3 o).toRows).2.2.length ≤ l.length + (cell 3 o).toRows.length := by
            unfold mergeR
            split
            · split
              · simp
              · have := mergeL_len ((cell 3 o).toRows.drop (b - (cell 1 o).toInt).toNat) 0 l
                simp only [List.length_drop] at this
                simp only
                omega
            · split
              · simp
              · split
                · have := mergeL_len (cell 3 o).toRows ((cell 1 o).toInt - b).toNat l
                  simp only
                  omega
                · simp
          push_cast; omega
        · unfold F8
          rw [eq_false k0, cond_false, eq_true k1, cond_true, lt_false hneg, cond_false]
          simp only [cl0, cl1, cl2]
          rw [rmerge_ok _ _ _ _ _ _ _ _ h0 (by omega) (by omega) (by omega) (by omega) (by omega) (by omega), of_ok _ _ (by omega) (by omega), merge_ok _ _ _ _ _ _ _ _ _ h0 (by omega) (by omega) (by rw [List.length_map]; omega) (by omega) (by omega) (by rw [List.length_map]; omega), mergeR_map]
          rw [eq_true rfl, cond_true, beq_self_eq_true]
    · by_cases k2 : (cell 0 o).toInt = 2
      · by_cases hp : (cell 1 o).toInt < b ∨ b + l.length < (cell 1 o).toInt
        · refine ⟨b, t, l, true, h0, by push_cast; omega, fun R k => ?_⟩
          unfold F8
          rw [eq_false k0, cond_false, eq_false k1, cond_false, eq_true k2, cond_true]
          simp only [cl0, cl1, cl2]
          rw [rpass_out _ _ _ _ _ _ h0 (by omega) (by omega) hp, pass_out _ _ _ _ _ _ h0 (by omega) (by omega) hp]
          rfl
        · obtain ⟨i, hi⟩ : ∃ i : Nat, (cell 1 o).toInt = b + i := ⟨((cell 1 o).toInt - b).toNat, by omega⟩
          refine ⟨b + i, termOf b t l (b + i), l.drop i, true, by omega, by rw [List.length_drop]; push_cast; omega, fun R k => ?_⟩
          unfold F8
          rw [eq_false k0, cond_false, eq_false k1, cond_false, eq_true k2, cond_true]
          simp only [cl0, cl1, cl2, hi]
          rw [rpass_in _ _ _ _ _ _ h0 (by omega) (by omega) (by omega), pass_in _ _ _ _ _ _ h0 (by omega) (by omega) (by omega)]
          rfl
      · refine ⟨b, t, l, true, h0, by push_cast; omega, fun R k => ?_⟩
        unfold F8
        rw [eq_false k0, cond_false, eq_false k1, cond_false, eq_false k2, cond_false]

/-- How many entries calls have. -/
def lens (l : List (List D)) : Nat := (l.map fun o => (cell 3 o).toRows.length).sum

theorem few_loop (fu : Nat) (l : List (List D)) (hw : ∀ o ∈ l, (cell 3 o).toRows.length ≤ 140737488355328) : ∀ (n i : Nat), 62 ≤ i + n → i ≤ 61 → i ≤ l.length → (∀ o ∈ l.take i, -1099511627776 ≤ (cell 1 o).toInt ∧ (cell 1 o).toInt ≤ 1099511627776) → lens (l.take i) ≤ i * 140737488355328 →
    ∃ (s : Int) (f : Bool), (f = true → s = lens (l.take 61) ∧ ∀ o ∈ l.take 61, -1099511627776 ≤ (cell 1 o).toInt ∧ (cell 1 o).toInt ≤ 1099511627776) ∧ ∀ (R : Type) (k0 k1 : Int → Option R), F4_58 fu l n (lens (l.take i)) i k0 k1 = bif f then k1 s else k0 s := by
  intro n
  induction n with
  | zero => intro i h1 h2; omega
  | succ n ih =>
    intro i h1 h2 h3 hall hs
    by_cases hi : i < l.length
    · by_cases h60 : i ≤ 60
      · have hlen := hw _ (elem_mem hi)
        have hsum : lens (l.take (i + 1)) = lens (l.take i) + (cell 3 (elem i l)).toRows.length := by
          have he : elem i l = l[i] := by unfold elem; rw [List.getD_eq_getElem?_getD, List.getElem?_eq_getElem hi]; rfl
          unfold lens
          rw [List.take_succ_eq_append_getElem hi, List.map_append, List.sum_append, he]; simp
        have hwr : IntKind.i64.wrap ((lens (l.take i) : Int) + ofN (cell 3 (elem i l)).toRows.length) = (lens (l.take (i + 1)) : Int) := by
          have : i * 140737488355328 ≤ 60 * 140737488355328 := Nat.mul_le_mul_right _ h60
          rw [hsum, wrap_of (by unfold ofN; omega) (by unfold ofN; omega)]; rfl
        by_cases hA : (cell 1 (elem i l)).toInt < -1099511627776
        · refine ⟨lens (l.take (i + 1)), false, by simp, fun R k0 k1 => ?_⟩
          unfold F4_58
          rw [lt_true (show (i : Int) < ofN l.length by unfold ofN; omega), cond_true, le_true (show (i : Int) ≤ 60 by omega), cond_true, within_of hi, cond_true, Int.toNat_natCast, hwr, lt_true hA]; rfl
        · by_cases hB : 1099511627776 < (cell 1 (elem i l)).toInt
          · refine ⟨lens (l.take (i + 1)), false, by simp, fun R k0 k1 => ?_⟩
            unfold F4_58
            rw [lt_true (show (i : Int) < ofN l.length by unfold ofN; omega), cond_true, le_true (show (i : Int) ≤ 60 by omega), cond_true, within_of hi, cond_true, Int.toNat_natCast, hwr, lt_false hA, lt_true hB]; rfl
          · obtain ⟨s, f, h4, h5⟩ := ih (i + 1) (by omega) (by omega) (by omega) (by
              have he : elem i l = l[i] := by unfold elem; rw [List.getD_eq_getElem?_getD, List.getElem?_eq_getElem hi]; rfl
              rw [List.take_succ_eq_append_getElem hi, ← he]
              intro o ho
              rcases List.mem_append.1 ho with ho | ho
              · exact hall o ho
              · rw [List.mem_singleton] at ho; subst ho; omega) (by rw [hsum, Nat.add_mul]; omega)
            refine ⟨s, f, h4, fun R k0 k1 => ?_⟩
            rw [← h5 R k0 k1]
            conv => lhs; unfold F4_58
            rw [lt_true (show (i : Int) < ofN l.length by unfold ofN; omega), cond_true, le_true (show (i : Int) ≤ 60 by omega), cond_true, within_of hi, cond_true, Int.toNat_natCast, hwr, lt_false hA, lt_false hB, wrap_succ (by omega)]; rfl
      · refine ⟨lens (l.take i), true, fun _ => ?_, fun R k0 k1 => ?_⟩
        · have : i = 61 := by omega
          subst this; exact ⟨rfl, hall⟩
        · unfold F4_58
          rw [lt_true (show (i : Int) < ofN l.length by unfold ofN; omega), cond_true, le_false (show ¬ (i : Int) ≤ 60 by omega)]; rfl
    · have hle : l.take 61 = l.take i := by rw [List.take_of_length_le (show l.length ≤ 61 by omega), List.take_of_length_le (show l.length ≤ i by omega)]
      refine ⟨lens (l.take i), true, fun _ => ?_, fun R k0 k1 => ?_⟩
      · rw [hle]; exact ⟨rfl, hall⟩
      · unfold F4_58
        rw [lt_false (show ¬ (i : Int) < ofN l.length by unfold ofN; omega)]; rfl

/-- Calls that may be gone through. -/
structure Few (l : List (List D)) : Prop where
  len : l.length ≤ 60
  sum : lens l ≤ 400
  lo : ∀ o ∈ l, -1099511627776 ≤ (cell 1 o).toInt ∧ (cell 1 o).toInt ≤ 1099511627776

theorem few_ok (fu : Nat) (l : List (List D)) (hfu : 1000 ≤ fu) (hw : ∀ o ∈ l, (cell 3 o).toRows.length ≤ 140737488355328) :
    ∃ f : Bool, (f = true → Few l) ∧ ∀ (R : Type) (k : Bool → Option R), F4 fu l k = k f := by
  obtain ⟨s, f, h1, h2⟩ := few_loop fu l hw fu 0 (by omega) (by omega) (by omega) (by simp) (by simp [lens])
  refine ⟨f && (decide (ofN l.length ≤ 60) && decide (s ≤ 400)), fun h => ?_, fun R k => ?_⟩
  · simp only [Bool.and_eq_true, decide_eq_true_eq] at h
    obtain ⟨hf, hl, hs⟩ := h
    obtain ⟨h3, h4⟩ := h1 hf
    have hl : l.length ≤ 60 := by unfold ofN at hl; omega
    rw [List.take_of_length_le (by omega)] at h3 h4
    exact ⟨hl, by omega, h4⟩
  · unfold F4
    have := h2 R (fun _ => k false) (fun o_1 => bif decide (ofN l.length ≤ 60) then k (decide (o_1 ≤ 400)) else k false)
    refine this.trans ?_
    cases f
    · rfl
    · cases decide (ofN l.length ≤ 60) <;> rfl

theorem lens_drop {l : List (List D)} {i : Nat} (h : i < l.length) : lens (l.drop i) = (cell 3 (elem i l)).toRows.length + lens (l.drop (i + 1)) := by
  rw [drop_elem h]; simp [lens]

end Go.Proofs.Ytkefbcnibffekaa.V

/- EntryCopies: what its code computes is true. -/
namespace Go.Proofs.Ytkefbcnibffekaa.V
variable {R : Type}

theorem elem_app_l (x y : List (List D)) {j : Nat} (h : j < x.length) : elem j (x ++ y) = elem j x := by
  unfold elem
  rw [List.getD_eq_getElem?_getD, List.getD_eq_getElem?_getD, List.getElem?_append_left h]

theorem elem_app_one (x : List (List D)) (y : List D) : elem x.length (x ++ [y]) = y := by
  unfold elem
  rw [List.getD_eq_getElem?_getD, List.getElem?_append_right (Nat.le_refl _)]; simp

theorem elem_take (x : List (List D)) {j p : Nat} (h : j < p) : elem j (x.take p) = elem j x := by
  unfold elem
  rw [List.getD_eq_getElem?_getD, List.getD_eq_getElem?_getD, List.getElem?_take, if_pos h]

theorem mergeL_ge : ∀ (more : List (List D)) (p : Nat) (out : List (List D)), p ≤ out.length → p + more.length ≤ (mergeL p more out).length
  | [], p, out, h => by unfold mergeL; simpa using h
  | e :: more, p, out, h => by
    unfold mergeL
    simp only [List.length_cons]
    split
    · rename_i h1
      have := mergeL_ge more (p + 1) out h1.1; omega
    · have := mergeL_ge more (p + 1) (out.take p ++ [NE e]) (by simp only [List.length_append, List.length_take, List.length_singleton]; omega); omega

theorem mergeL_low : ∀ (more : List (List D)) (p : Nat) (out : List (List D)) (j : Nat), p ≤ out.length → j < p → elem j (mergeL p more out) = elem j out
  | [], p, out, j, h, hj => rfl
  | e :: more, p, out, j, h, hj => by
    unfold mergeL
    split
    · rename_i h1
      exact mergeL_low more (p + 1) out j h1.1 (by omega)
    · rw [mergeL_low more (p + 1) (out.take p ++ [NE e]) j (by simp only [List.length_append, List.length_take, List.length_singleton]; omega) (by omega), elem_app_l _ _ (by rw [List.length_take]; omega), elem_take _ hj]

theorem mergeL_at : ∀ (more : List (List D)) (p : Nat) (out : List (List D)) (i : Nat), p ≤ out.length → i < more.length →
    elem (p + i) (mergeL p more out) = NE (elem i more) ∨ (p + i < out.length ∧ elem (p + i) (mergeL p more out) = elem (p + i) out ∧ (cell 0 (elem (p + i) out)).toInt = (cell 0 (elem i more)).toInt)
  | [], p, out, i, h, hi => by simp at hi
  | e :: more, p, out, i, h, hi => by
    unfold mergeL
    split
    · rename_i h1
      cases i with
      | zero => exact .inr ⟨h1.1, mergeL_low more (p + 1) out p h1.1 (by omega), h1.2⟩
      | succ i =>
        have := mergeL_at more (p + 1) out i h1.1 (by simp only [List.length_cons] at hi; omega)
        rw [show p + (i + 1) = p + 1 + i by omega]
        exact this
    · have hl : (out.take p ++ [NE e]).length = p + 1 := by simp only [List.length_append, List.length_take, List.length_singleton]; omega
      have hp : (out.take p).length = p := by rw [List.length_take]; omega
      cases i with
      | zero =>
        refine .inl ?_
        rw [Nat.add_zero, mergeL_low more (p + 1) _ p (by omega) (by omega)]
        have := elem_app_one (out.take p) (NE e)
        rw [hp] at this
        exact this
      | succ i =>
        have := mergeL_at more (p + 1) (out.take p ++ [NE e]) i (by omega) (by simp only [List.length_cons] at hi; omega)
        rw [show p + (i + 1) = p + 1 + i by omega]
        rcases this with h2 | h2
        · exact .inl h2
        · omega

theorem mergev_loop (fu : Nat) (b t : Int) (p : Nat) (x : List (List D)) (hb : 0 ≤ b) (hb2 : b ≤ 1000000000) (hm : p + x.length ≤ 900000) (k : List (List D) → Option R) : ∀ (n i : Nat) (out : List (List D)), x.length + 1 ≤ i + n → i ≤ x.length → out.length ≤ 900000 →
    F11v_250 fu (b + p) (ofN x.length) b t x n (i : Int) out k = k (mergeL (p + i) (x.drop i) out) := by
  intro n
  induction n with
  | zero => intro i out h1 h2; omega
  | succ n ih =>
    intro i out h1 h2 h3
    unfold F11v_250
    by_cases hi : i < x.length
    · have hw : IntKind.i64.wrap (IntKind.i64.wrap (b + p + 1) + i) = b + 1 + ((p + i : Nat) : Int) := by
        rw [wrap_of (x := b + p + 1) (by omega) (by omega), wrap_of (by omega) (by omega)]; push_cast; omega
      have hw2 : IntKind.i64.wrap (IntKind.i64.wrap (b + 1 + ((p + i : Nat) : Int) - b) - 1) = ((p + i : Nat) : Int) := by
        rw [wrap_of (x := b + 1 + ((p + i : Nat) : Int) - b) (by omega) (by omega), wrap_of (by omega) (by omega)]; omega
      have hmin : (if ofN out.length < ((p + i : Nat) : Int) then ofN out.length else ((p + i : Nat) : Int)) = ((min out.length (p + i) : Nat) : Int) := by
        unfold ofN; split <;> omega
      have hlt : decide ((i : Int) < ofN x.length) = true := lt_true (by unfold ofN; omega)
      have hz : decide ((0 : Int) ≤ 0 ∧ (0 : Int) ≤ ((min out.length (p + i) : Nat) : Int)) = true := decide_eq_true ⟨by omega, by omega⟩
      have hu : upTo ((min out.length (p + i) : Nat) : Int) out.length = true := upTo_of (by omega) (by omega)
      have htk : out.take (min out.length (p + i)) = out.take (p + i) := by
        by_cases h : p + i ≤ out.length
        · rw [Nat.min_eq_right h]
        · rw [Nat.min_eq_left (by omega), List.take_of_length_le (Nat.le_refl _), List.take_of_length_le (by omega)]
      have hln : (out.take (p + i)).length ≤ p + i := by rw [List.length_take]; omega
      have hadd : ∀ kk : Int → List (List D) → Option R, F13 fu [D.int (cell 0 (elem i x)).toInt, D.str (cell 1 (elem i x)).toStr] b t (out.take (p + i)) kk = kk (b + (out.take (p + i)).length + 1) (out.take (p + i) ++ [NE (elem i x)]) :=
        fun kk => add_ok fu _ b t _ kk hb (by omega) (by omega)
      have hnext := ih (i + 1) (out.take (p + i) ++ [NE (elem i x)]) (by omega) (by omega) (by rw [List.length_append, List.length_singleton]; omega)
      rw [drop_elem hi]
      simp only [hw, hw2, hmin, hlt, hz, hu, cond_true, within_of hi, Int.toNat_natCast, wrap_succ (show i ≤ 9223372036854775806 by omega), Bool.and_self, part_take, htk, hadd]
      unfold mergeL
      by_cases h4 : p + i < out.length
      · rw [term_in _ _ _ _ _ _ hb (by omega) (by omega) h4, cond_true]
        by_cases h5 : (cell 0 (elem (p + i) out)).toInt = (cell 0 (elem i x)).toInt
        · rw [eq_true h5, cond_true, if_pos ⟨h4, h5⟩]
          exact ih (i + 1) out (by omega) (by omega) h3
        · rw [eq_false h5, cond_false, if_neg (fun h => h5 h.2)]
          exact hnext
      · rw [term_out _ _ _ _ _ _ hb (by omega) (by omega) (.inr (by omega)), cond_false, if_neg (fun h => h4 h.1)]
        exact hnext
    · have hlt : decide ((i : Int) < ofN x.length) = false := lt_false (by unfold ofN; omega)
      rw [hlt, cond_false, show i = x.length by omega, List.drop_length]
      rfl

theorem mergev_in (fu n : Nat) (a tm b t : Int) (l more : List (List D)) (k : Int → Bool → List (List D) → Option R) (hb : 0 ≤ b) (hb2 : b ≤ 1000000000) (hl : l.length ≤ 10000) (hm : more.length ≤ 10000) (hab : b ≤ a) (ha2 : a ≤ 1099511627776) (hf : more.length + 1 ≤ fu) :
    F11v fu (n + 1) a tm b t l more k = k (mergeR b t l a tm more).1 (mergeR b t l a tm more).2.1 (mergeR b t l a tm more).2.2 := by
  unfold F11v mergeR; dsimp only
  rw [lt_false (show ¬ a < 0 by omega), cond_false, lt_false (show ¬ a < b by omega), cond_false, if_neg (show ¬ a < b by omega)]
  by_cases h1 : b + l.length < a
  · rw [term_out _ _ _ _ _ _ hb (by omega) (by omega) (.inr h1), if_pos h1]; rfl
  · rw [term_ok _ _ _ _ _ _ hb (by omega) (by omega) hab (by omega), if_neg h1, Bool.not_true, cond_false]
    by_cases h2 : termOf b t l a = tm
    · rw [eq_true h2, Bool.not_true, cond_false, if_pos h2]
      have := mergev_loop fu b t (a - b).toNat more hb hb2 (by omega) (fun o_5 => k (IntKind.i64.wrap (a + ofN more.length)) true o_5) fu 0 l (by omega) (by omega) (by omega)
      rw [show b + ((a - b).toNat : Int) = a by omega] at this
      refine this.trans ?_
      rw [wrap_of (by unfold ofN; omega) (by unfold ofN; omega)]; rfl
    · rw [eq_false h2, Bool.not_false, cond_true, if_neg h2]

theorem runs3 (fu : Nat) (x : List (List D)) (hfu : 1000 ≤ fu) (hx : Few x) : ∀ (n i m : Nat) (b t : Int) (l : List (List D)), x.length + 1 ≤ i + n → i ≤ x.length → m + lens (x.drop i) ≤ 400 → 0 ≤ b → b + l.length ≤ m →
    ∃ (b' t' : Int) (l' : List (List D)), 0 ≤ b' ∧ b' + l'.length ≤ 400 ∧ ∀ (R : Type) (k : Int → Int → List (List D) → Int → Int → List (List D) → Option R), F3_250 fu x (ofN x.length) n (i : Int) b t l b t l k = k b' t' l' b' t' l' := by
  intro n
  induction n with
  | zero => intro i m b t l h1 h2; omega
  | succ n ih =>
    intro i m b t l h1 h2 h3 h4 h5
    by_cases hi : i < x.length
    · rw [lens_drop hi] at h3
      obtain ⟨hA, hB⟩ := hx.lo _ (elem_mem hi)
      obtain ⟨b1, t1, l1, f, q1, q2, q3⟩ := does_ok fu [D.int (cell 0 (elem i x)).toInt, D.int (cell 1 (elem i x)).toInt, D.int (cell 2 (elem i x)).toInt, D.row (cell 3 (elem i x)).toRows] b t l m hfu h4 h5 (show m + (cell 3 (elem i x)).toRows.length ≤ 400 by omega) hA hB
      obtain ⟨b2, t2, l2, p1, p2, p3⟩ := ih (i + 1) (m + (cell 3 (elem i x)).toRows.length) b1 t1 l1 (by omega) (by omega) (by omega) q1 q2
      refine ⟨b2, t2, l2, p1, p2, fun R k => ?_⟩
      unfold F3_250
      rw [lt_true (show (i : Int) < ofN x.length by unfold ofN; omega), cond_true, within_of hi, cond_true, Int.toNat_natCast, q3, wrap_succ (by have := hx.len; omega)]
      exact p3 R k
    · refine ⟨b, t, l, h4, by omega, fun R k => ?_⟩
      unfold F3_250
      rw [lt_false (show ¬ (i : Int) < ofN x.length by unfold ofN; omega), cond_false]

theorem same_loop (fu : Nat) (b t : Int) (l : List (List D)) (hb : 0 ≤ b) (hb2 : b ≤ 1000000) (hl : l.length ≤ 10000) (k0 k1 : Option R) : ∀ (n j : Nat), l.length + 4 ≤ j + n → j ≤ l.length + 3 →
    F18_58 fu b t l b t l n (b - 1 + j) k0 k1 = k1 := by
  intro n
  induction n with
  | zero => intro j h1 h2; omega
  | succ n ih =>
    intro j h1 h2
    have hs0 : strEq (cell 1 [D.int 0, D.str { data := #[] }]).toStr { data := #[] } = true := strEq_refl _
    unfold F18_58
    rw [rlast_ok _ _ _ _ _ hb (by omega) (by omega)]
    have hw1 : IntKind.i64.wrap (b + l.length + 1) = b + l.length + 1 := wrap_of (by omega) (by omega)
    rw [hw1]
    by_cases hj : j ≤ l.length + 2
    · have hnext := ih (j + 1) (by omega) (by omega)
      have hw : IntKind.i64.wrap (b - 1 + j + 1) = b - 1 + ((j + 1 : Nat) : Int) := by rw [wrap_of (by omega) (by omega)]; push_cast; omega
      rw [le_true (by omega), cond_true, hw]
      by_cases ho : j = 0 ∨ j = l.length + 2
      · rw [term_out _ _ _ _ _ _ hb (by omega) (by omega) (by omega), rterm_out _ _ _ _ _ _ hb (by omega) (by omega) (by omega), get_out _ _ _ _ _ _ hb (by omega) (by omega) (by omega)]
        rw [eq_true rfl, hs0]
        exact hnext
      · by_cases h1j : j = 1
        · subst h1j
          rw [show b - 1 + ((1 : Nat) : Int) = b by omega]
          rw [term_ok _ _ _ _ _ _ hb (by omega) (by omega) (by omega) (by omega), rterm_ok _ _ _ _ _ _ hb (by omega) (by omega) (by omega) (by omega), get_out _ _ _ _ _ _ hb (by omega) (by omega) (by omega)]
          rw [eq_true rfl, lt_false (show ¬ b < b by omega), hs0]
          exact hnext
        · obtain ⟨i, rfl⟩ : ∃ i : Nat, j = i + 2 := ⟨j - 2, by omega⟩
          have e1 : b - 1 + ((i + 2 : Nat) : Int) = b + 1 + i := by push_cast; omega
          have e : IntKind.i64.wrap (IntKind.i64.wrap (b + 1 + i - b) - 1) = (i : Int) := by rw [wrap_of (x := b + 1 + i - b) (by omega) (by omega), wrap_of (by omega) (by omega)]; omega
          rw [e1]
          rw [term_ok _ _ _ _ _ _ hb (by omega) (by omega) (by omega) (by omega), rterm_ok _ _ _ _ _ _ hb (by omega) (by omega) (by omega) (by omega), get_in _ _ _ _ _ _ hb (by omega) (by omega) (by omega)]
          rw [eq_true rfl, lt_true (show b < b + 1 + (i : Int) by omega), e, within_of (by omega), Int.toNat_natCast, eq_true rfl, strEq_refl]
          exact hnext
    · rw [le_false (by omega), cond_false]

theorem same_ok (fu : Nat) (b t : Int) (l : List (List D)) (hfu : 1000 ≤ fu) (hb : 0 ≤ b) (hb2 : b ≤ 1000000) (hl : l.length ≤ 900) (k : Bool → Option R) :
    F18 fu [D.int b, D.int t, D.row l] b t l k = k true := by
  unfold F18 F12
  simp only [cl0, cl1, cl2, decide_true, Bool.not_true, cond_false]
  rw [last_ok _ _ _ _ _ hb (by omega) (by omega), rlast_ok _ _ _ _ _ hb (by omega) (by omega), eq_true rfl, Bool.not_true, cond_false, wrap_of (by omega) (by omega)]
  have := same_loop fu b t l hb hb2 (by omega) (k false) (k true) fu 0 (by omega) (by omega)
  rw [show b - 1 + ((0 : Nat) : Int) = b - 1 by simp] at this
  exact this

theorem from_ok (fu : Nat) (b t : Int) (l : List (List D)) (hb : 0 ≤ b) (hb2 : b ≤ 1000000) (hl : l.length ≤ 10000) :
    ∃ told : List (List D), told.length ≤ 400 ∧ ∀ (R : Type) (k : List (List D) → Option R), F16 fu (IntKind.i64.wrap (b + 1)) 400 b t l k = k told := by
  have hw : IntKind.i64.wrap (b + 1) = b + 1 := wrap_of (by omega) (by omega)
  have hw2 : IntKind.i64.wrap (IntKind.i64.wrap (b + 1 - b) - 1) = 0 := by rw [wrap_of (x := b + 1 - b) (by omega) (by omega), wrap_of (by omega) (by omega)]; omega
  have hz : (if (0 : Int) > 0 then (0 : Int) else 0) = 0 := by simp
  have hp : part l 0 (ofN l.length).toNat = l := by unfold ofN; rw [Int.toNat_natCast]; exact part_all _
  obtain ⟨m, hm4, hm, hme⟩ : ∃ m : Nat, m ≤ 400 ∧ m ≤ l.length ∧ (if ofN l.length < 400 then ofN l.length else 400) = (m : Int) := by
    unfold ofN
    by_cases h : (l.length : Int) < 400
    · exact ⟨l.length, by omega, by omega, by rw [if_pos h]⟩
    · exact ⟨400, by omega, by omega, by rw [if_neg h]; rfl⟩
  by_cases h0 : l.length = 0
  · refine ⟨[], by simp, fun R k => ?_⟩
    unfold F16
    rw [hw, last_ok _ _ _ _ _ hb (by omega) (by omega), lt_true (by omega), cond_true]
  · refine ⟨l.take m, by rw [List.length_take]; omega, fun R k => ?_⟩
    unfold F16
    have g1 : decide ((0 : Int) ≤ 0 ∧ (0 : Int) ≤ ofN l.length) = true := decide_eq_true ⟨by omega, by unfold ofN; omega⟩
    have g2 : upTo (ofN l.length) l.length = true := upTo_of (by unfold ofN; omega) (by unfold ofN; omega)
    have g3 : decide ((0 : Int) ≤ 0 ∧ (0 : Int) ≤ (m : Int)) = true := decide_eq_true ⟨by omega, by omega⟩
    have g4 : upTo (m : Int) l.length = true := upTo_of (by omega) (by omega)
    have g5 : (l.take m).length = m := by rw [List.length_take]; omega
    rw [hw, last_ok _ _ _ _ _ hb (by omega) (by omega), lt_false (by omega), cond_false, lt_false (show ¬ (400 : Int) < 1 by omega), cond_false]
    simp only [hw2, hz, Int.toNat_zero, hp, hme, g1, g2, g3, g4, Bool.and_self, cond_true, Int.toNat_natCast, part_take, g5]
    rw [le_false (by omega), cond_false, fits_of (by omega) (by omega), cond_true]

theorem spoil3a (fu : Nat) (k0 : Option R) : ∀ (n i : Nat) (x : List (List D)) (m : Nat), m ≤ x.length → m ≤ 100000 → m + 1 ≤ i + n → i ≤ m →
    F3_65530 fu (ofN m) n (i : Int) x k0 = k0 := by
  intro n
  induction n with
  | zero => intro i x m h0 h00 h1 h2; omega
  | succ n ih =>
    intro i x m h0 h00 h1 h2
    unfold F3_65530
    by_cases hi : i < m
    · rw [lt_true (show (i : Int) < ofN m by unfold ofN; omega), cond_true, within_of (by omega), cond_true, wrap_succ (by omega)]
      exact ih (i + 1) _ m (by unfold putAt; rw [List.length_set]; exact h0) h00 (by omega) (by omega)
    · rw [lt_false (show ¬ (i : Int) < ofN m by unfold ofN; omega), cond_false]

theorem spoil3b (fu : Nat) (k0 : Option R) : ∀ (n i : Nat) (x : List (List D)) (m : Nat), m ≤ x.length → m ≤ 100000 → m + 1 ≤ i + n → i ≤ m →
    F3_1048570 fu (ofN m) n (i : Int) x k0 = k0 := by
  intro n
  induction n with
  | zero => intro i x m h0 h00 h1 h2; omega
  | succ n ih =>
    intro i x m h0 h00 h1 h2
    unfold F3_1048570
    by_cases hi : i < m
    · rw [lt_true (show (i : Int) < ofN m by unfold ofN; omega), cond_true, within_of (by omega), cond_true, wrap_succ (by omega)]
      exact ih (i + 1) _ m (by unfold putAt; rw [List.length_set]; exact h0) h00 (by omega) (by omega)
    · rw [lt_false (show ¬ (i : Int) < ofN m by unfold ofN; omega), cond_false]

theorem look3 (fu : Nat) (more r : List (List D)) (hm : more.length ≤ 60) (hr : r.length ≤ 10000) (hpr : more.length ≤ r.length) (he : ∀ i, i < more.length → elem i r = NE (elem i more)) (k0 k1 : Option R) : ∀ (n i : Nat), more.length + 1 ≤ i + n → i ≤ more.length →
    F3_2097146 fu more (ofN more.length) 0 0 r n (i : Int) k0 k1 = k1 := by
  intro n
  induction n with
  | zero => intro i h1 h2; omega
  | succ n ih =>
    intro i h1 h2
    unfold F3_2097146
    by_cases hi : i < more.length
    · have hnext := ih (i + 1) (by omega) (by omega)
      rw [lt_true (show (i : Int) < ofN more.length by unfold ofN; omega), cond_true, within_of hi, cond_true, wrap_succ (by omega), Int.toNat_natCast]
      rw [show ((i + 1 : Nat) : Int) = 0 + 1 + (i : Int) by push_cast; omega, get_in _ _ _ _ _ _ (by omega) (by omega) (by omega) (show i < r.length by omega)]
      have q1 : (cell 0 (NE (elem i more))).toInt = (cell 0 (elem i more)).toInt := rfl
      have q2 : (cell 1 (NE (elem i more))).toStr = (cell 1 (elem i more)).toStr := rfl
      rw [he i hi, q1, q2, eq_true rfl, strEq_refl]
      rw [show ((i + 1 : Nat) : Int) = 0 + 1 + (i : Int) by push_cast; omega] at hnext
      exact hnext
    · rw [lt_false (show ¬ (i : Int) < ofN more.length by unfold ofN; omega), cond_false]

theorem copies3 (fu : Nat) (hfu : 1000 ≤ fu) (l : List (List D)) (more : List (List D)) (hl : ∀ o ∈ l, (cell 3 o).toRows.length ≤ 140737488355328) : F3 fu l more (fun o => some o) = some true := by
  have aw : ∀ (k : Option Bool), F5 fu k = k := fun k => rfl
  have e6 : ∀ (k : Int → Int → Option Bool), F6 fu 0 0 k = k 0 0 := fun k => rfl
  have e7 : ∀ (k : List D → Option Bool), F7 fu 0 0 k = k [D.int 0, D.int 0, D.row []] := fun k => rfl
  have e12 : ∀ (b t : Int) (l : List (List D)) (k : Option Bool), F12 fu b t l k = k := fun _ _ _ _ => rfl
  obtain ⟨f, f1, f2⟩ := few_ok fu l hfu hl
  obtain ⟨fu', hfu'⟩ : ∃ n, fu = n + 1 := ⟨fu - 1, by omega⟩
  unfold F3
  simp only [aw]
  rw [f2]
  cases f with
  | false => rfl
  | true =>
    rw [Bool.not_true, cond_false]
    by_cases hm : (60 : Int) < ofN more.length
    · rw [lt_true hm]; rfl
    · rw [lt_false hm, cond_false]
      have hm : more.length ≤ 60 := by unfold ofN at hm; omega
      obtain ⟨b, t, x, p1, p2, p3⟩ := runs3 fu l hfu (f1 rfl) fu 0 0 0 0 [] (by have := (f1 rfl).len; omega) (by omega) (by have := (f1 rfl).sum; rw [List.drop_zero]; omega) (by omega) (by simp)
      simp only [e6, e7, e12, cl0, cl1, cl2]
      refine (p3 Bool _).trans ?_
      have hmm : (more.map NE).length ≤ 60 := by rw [List.length_map]; exact hm
      have hfit : fits x.length 24 = true := fits_of (by omega) (by omega)
      have e9 : ∀ (k : Option Bool), F9 fu b t x k = k := fun k => by unfold F9; rw [hfit]; rfl
      simp only [e9, of_ok fu more (by omega) (by omega)]
      have q1 : ∀ k : Int → Bool → List (List D) → Option Bool, F11v fu fu b 0 b t x (more.map NE) k = k (mergeR b t x b 0 (more.map NE)).1 (mergeR b t x b 0 (more.map NE)).2.1 (mergeR b t x b 0 (more.map NE)).2.2 := fun k => by
        conv => lhs; arg 2; rw [hfu']
        exact mergev_in _ _ _ _ _ _ _ _ _ p1 (by omega) (by omega) (by omega) (by omega) (by omega) (by omega)
      rw [q1]
      have hlen : (mergeR b t x b 0 (more.map NE)).2.2.length ≤ 1000 := by
        unfold mergeR
        rw [if_neg (show ¬ b < b by omega), if_neg (show ¬ b + (x.length : Int) < b by omega)]
        split
        · have := mergeL_len (more.map NE) (b - b).toNat x
          simp only
          omega
        · simp only; omega
      generalize (mergeR b t x b 0 (more.map NE)).2.2 = x2 at hlen ⊢
      rw [add_ok _ _ _ _ _ _ p1 (by omega) (by omega)]
      have hla : (x2 ++ [NE [D.int 77, D.str (ByteArray.mk #[])]]).length ≤ 1001 := by rw [List.length_append, List.length_singleton]; omega
      generalize x2 ++ [NE [D.int 77, D.str (ByteArray.mk #[])]] = x3 at hla ⊢
      rw [last_ok _ _ _ _ _ p1 (by omega) (by omega), pass_in _ _ _ _ _ _ p1 (by omega) (by omega) (Nat.le_refl _)]
      obtain ⟨told, hto, hte⟩ := from_ok fu b t x p1 (by omega) (by omega)
      rw [hte]
      refine (spoil3a fu _ fu 0 told told.length (Nat.le_refl _) (by omega) ?_ (by omega)).trans ?_
      · omega
      have q2 : ∀ k : Int → Bool → List (List D) → Option Bool, F11v fu fu 0 0 0 0 [] (more.map NE) k = k (mergeR 0 0 [] 0 0 (more.map NE)).1 (mergeR 0 0 [] 0 0 (more.map NE)).2.1 (mergeR 0 0 [] 0 0 (more.map NE)).2.2 := fun k => by
        conv => lhs; arg 2; rw [hfu']
        exact mergev_in _ _ _ _ _ _ _ _ _ (by omega) (by omega) (by simp) (by omega) (by omega) (by omega) (by omega)
      rw [q2, mergeR_map]
      have hR : (mergeR 0 0 [] 0 0 more).2.2 = mergeL 0 more [] := by
        unfold mergeR
        rw [if_neg (by omega), if_neg (by simp), if_pos (by unfold termOf; rw [if_pos rfl])]; rfl
      rw [hR]
      refine (spoil3b fu _ fu 0 (more.map NE) (more.map NE).length (Nat.le_refl _) (by omega) (by omega) (by omega)).trans ?_
      have hln := mergeL_len more 0 []
      have hge := mergeL_ge more 0 [] (Nat.le_refl _)
      refine (look3 fu more (mergeL 0 more []) hm (by simp at hln; omega) (by omega) (fun i hi => ?_) _ _ fu 0 (by omega) (by omega)).trans ?_
      · have := mergeL_at more 0 [] i (Nat.le_refl _) hi
        rw [Nat.zero_add] at this
        rcases this with h | ⟨h, _⟩
        · exact h
        · simp at h
      · rw [same_ok _ _ _ _ hfu p1 (by omega) (by omega)]
        rfl
end Go.Proofs.Ytkefbcnibffekaa.V

namespace Go.Proofs.Ytkefbcnibffekaa

theorem copies_holds : Rows.EntryCopiesSaid := copies_join (V.law3 1000 fun _ _ h1 _ => V.copies3 1000 (Nat.le_refl _) _ _ (fun r hr => by have := (((h1.cell (j := 0) rfl).rows r hr).cell (j := 3) rfl).rows_len; have := V.reach_lt; omega))

end Go.Proofs.Ytkefbcnibffekaa

