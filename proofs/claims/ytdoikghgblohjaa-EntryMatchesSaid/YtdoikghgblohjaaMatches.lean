/- WHAT IS PROVED: the call of EntryMatches answers true, and leaves its arguments as they were, at every input that the given row takes. No condition of its own. -/
import Derived.Test.YtdoikghgblohjaaBase4
import Derived.Test.YtdoikghgblohjaaChecked
import Derived.ProofKit
import Derived.KernelRfl
import Derived.Test.YtdoikghgblohjaaRows
set_option linter.unusedVariables false
set_option linter.unusedSimpArgs false

/- What all joins use. -/
namespace Go.Proofs.Ytdoikghgblohjaa
theorem Try.own : ownKnob Try.prog.godebug = none := by kernel_rfl
theorem Try.laidOut : laidOutB Try.prog = true := by kernel_rfl
end Go.Proofs.Ytdoikghgblohjaa

/- Where V's law of function 13 stands, the given row stands. -/
namespace Go.Proofs.Ytdoikghgblohjaa
open Go.ChangeShapes Go.WideShapes Go.ChangeAt Go.RowKit

set_option maxRecDepth 100000 in
theorem matches_lifted (law : V.Law Try.prog 13 Try.f13.params.toList) (os : Os) (started : os.Started) (H : Type) (enc : TypeId × Value → H) :
    ReturnsInHanded {} Try.checked os 13 .any (Rows.entryMatchesSpec.pre6 enc Try.prog Try.f13 Rows.entryMatchesRow.domain false) (Rows.entryMatchesSpec.post enc Try.prog Try.f13 false true false false) := by
  refine V.lift (C := Try.checked) enc Try.own started (by kernel_rfl) Try.func13
    (ChangeSpec.witness6 (enc := enc) (C := Try.checked) false ⟨#[], #[.slice none 0 0, .int .i64 0, .slice none 0 0], []⟩ 8 (by kernel_rfl) (by kernel_rfl) (by kernel_rfl) (by kernel_rfl)) rfl (fun ds h => ?_) rfl (by kernel_rfl) Try.laidOut (by kernel_rfl) law
  have h : ds.length = 3 := h
  match ds, h with
  | [d1, d2, d3], _ => rfl

theorem matches_join (law : V.Law Try.prog 13 Try.f13.params.toList) : Rows.EntryMatchesSaid :=
  OpenClaim.holds_of_wide 13 Try.f13 rfl rfl rfl rfl rfl rfl rfl ⟨rfl, rfl, rfl, rfl, rfl⟩ rfl rfl rfl rfl rfl (by kernel_rfl) Try.func13 (by kernel_rfl)
    (of_decide_eq_true (by kernel_rfl)) (by unfold Func.isWrapper; first | (rw [if_pos (by decide +kernel)]; kernel_rfl) | (rw [if_neg (by decide +kernel)]; exact ⟨rfl, rfl⟩))
    (fun os started H enc _ => matches_lifted law os started H enc)

end Go.Proofs.Ytdoikghgblohjaa

/- Printed by ugen: slices.Clone[[]daisychain/entry.Entry,daisychain/entry.Entry] -/
namespace Go.Proofs.Ytdoikghgblohjaa.V
set_option maxRecDepth 100000
set_option maxHeartbeats 4000000

abbrev ft0 : List FT := [FT.int IntKind.i64, FT.str]
abbrev ft1 : List FT := [FT.int IntKind.i64, FT.int IntKind.i64, FT.row 24 [FT.int IntKind.i64, FT.str]]

noncomputable def code77 : Code := match Try.f77.body with | some c => c | none => .skip

theorem s77 (fu : Nat) : Tells Try.prog 77 (toldClone ft0 24) :=
  clone_tells (F := (fun _ => none)) (k := 300) (fun _ _ _ h => by cases h) (fun R K => by kernel_rfl) (fun R K es => by kernel_rfl)

noncomputable def tb77 (fu : Nat) : FuncId → Option (Bool × ToldF) := fun f => match Nat.beq f 77 with
  | true => some (false, ghG [.fzP 0 [] ft0] (toldClone ft0 24))
  | false => (fun _ => none) f
theorem tb77_sound (fu : Nat) : SoundF' Try.prog (tb77 fu) := by
  intro f own told h
  unfold tb77 at h
  split at h
  · rename_i hb
    cases h
    have := Nat.eq_of_beq_eq_true hb
    subst this
    exact ghG_sound (s77 fu)
  · exact (fun _ _ _ h => by cases h) f own told h

end Go.Proofs.Ytdoikghgblohjaa.V

/- Printed by ugen: daisychain/entry.New -/
namespace Go.Proofs.Ytdoikghgblohjaa.V
set_option maxRecDepth 100000
set_option maxHeartbeats 4000000


noncomputable def code40 : Code := match Try.f40.body with | some c => c | none => .skip

noncomputable def F40 {R : Type} (fu : Nat) (base : Int) (term : Int) (k0 : Int → Int → Option R) : Option R :=
  (k0 (if 0 > base then 0 else base) (if 0 > term then 0 else term))

noncomputable def pc40 (fu : Nat) : Nat → Option ToldP := fun _ => none
noncomputable def t40 (fu : Nat) : ToldF := fun _ args s K => match args, s with
  | [.int .i64 base, .int .i64 term], [] => F40 fu base term (fun o_ o_1 => K (.ptr 0 0) [.obj [.int .i64 o_, .int .i64 o_1, .fz ft0 ([]) false]])
  | _, _ => none

theorem e40 (R : Type) (K : UV → USt → Option R) (fu : Nat) (base : Int) (term : Int) :
    F40 fu base term (fun o_ o_1 => K (.ptr 0 0) [.obj [.int .i64 o_, .int .i64 o_1, .fz ft0 ([]) false]]) = ufun Try.prog ⟨(tb77 fu), pc40 fu⟩ 300 40 [.int .i64 base, .int .i64 term] [] (funK 0 [.gc, .fzC 0 2 ft0, .gc] K) := by kernel_rfl

theorem s40 (fu : Nat) : Tells Try.prog 40 (t40 fu) := by
  refine ufun_sound (T := ⟨(tb77 fu), pc40 fu⟩) (m := 0) (gout := [.gc, .fzC 0 2 ft0, .gc]) (k := 300) (tb77_sound fu) (fun fn body hf hb => ?_) (fun R args s K r h => ?_) (fun R args s K r h => ?_)
  · have hc : body = code40 := by
      have h1 : Try.prog.funcs[40]? = some Try.f40 := rfl
      rw [h1] at hf; cases hf
      have h2 : Try.f40.body = some code40 := rfl
      rw [h2] at hb; cases hb; rfl
    subst hc
    exact SoundPc.none _ _ _
  · unfold t40 at h; split at h
    · rfl
    · cases h
  · unfold t40 at h; split at h
    case h_2 => cases h
    exact (e40 R K fu _ _).symm.trans h

noncomputable def tb40 (fu : Nat) : FuncId → Option (Bool × ToldF) := fun f => match Nat.beq f 40 with
  | true => some (false, ghG [] (t40 fu))
  | false => (tb77 fu) f
theorem tb40_sound (fu : Nat) : SoundF' Try.prog (tb40 fu) := by
  intro f own told h
  unfold tb40 at h
  split at h
  · rename_i hb
    cases h
    have := Nat.eq_of_beq_eq_true hb
    subst this
    exact ghG_sound (s40 fu)
  · exact (tb77_sound fu) f own told h

end Go.Proofs.Ytdoikghgblohjaa.V

/- Printed by ugen: daisychain/daisychainref11.New -/
namespace Go.Proofs.Ytdoikghgblohjaa.V
set_option maxRecDepth 100000
set_option maxHeartbeats 4000000


noncomputable def code41 : Code := match Try.f41.body with | some c => c | none => .skip

noncomputable def F41 {R : Type} (fu : Nat) (base : Int) (term : Int) (k0 : (List D) → Option R) : Option R :=
  bif decide (base < 0) then bif decide (term < 0) then (k0 ([D.int 0, D.int 0, D.row ([])])) else (k0 ([D.int 0, D.int term, D.row ([])])) else bif decide (term < 0) then (k0 ([D.int base, D.int 0, D.row ([])])) else (k0 ([D.int base, D.int term, D.row ([])]))

noncomputable def pc41 (fu : Nat) : Nat → Option ToldP := fun _ => none
noncomputable def t41 (fu : Nat) : ToldF := fun _ args s K => match args, s with
  | [.int .i64 base, .int .i64 term], [] => F41 fu base term (fun o_ => K (.agg (ofDs 0 ft1 o_)) [])
  | _, _ => none

theorem e41 (R : Type) (K : UV → USt → Option R) (fu : Nat) (base : Int) (term : Int) :
    F41 fu base term (fun o_ => K (.agg (ofDs 0 ft1 o_)) []) = ufun Try.prog ⟨(tb40 fu), pc41 fu⟩ 300 41 [.int .i64 base, .int .i64 term] [] (funK 0 [.fzP 0 [2] ft0, .gc] K) := by kernel_rfl

theorem s41 (fu : Nat) : Tells Try.prog 41 (t41 fu) := by
  refine ufun_sound (T := ⟨(tb40 fu), pc41 fu⟩) (m := 0) (gout := [.fzP 0 [2] ft0, .gc]) (k := 300) (tb40_sound fu) (fun fn body hf hb => ?_) (fun R args s K r h => ?_) (fun R args s K r h => ?_)
  · have hc : body = code41 := by
      have h1 : Try.prog.funcs[41]? = some Try.f41 := rfl
      rw [h1] at hf; cases hf
      have h2 : Try.f41.body = some code41 := rfl
      rw [h2] at hb; cases hb; rfl
    subst hc
    exact SoundPc.none _ _ _
  · unfold t41 at h; split at h
    · rfl
    · cases h
  · unfold t41 at h; split at h
    case h_2 => cases h
    exact (e41 R K fu _ _).symm.trans h

noncomputable def tb41 (fu : Nat) : FuncId → Option (Bool × ToldF) := fun f => match Nat.beq f 41 with
  | true => some (false, ghG [] (t41 fu))
  | false => (tb40 fu) f
theorem tb41_sound (fu : Nat) : SoundF' Try.prog (tb41 fu) := by
  intro f own told h
  unfold tb41 at h
  split at h
  · rename_i hb
    cases h
    have := Nat.eq_of_beq_eq_true hb
    subst this
    exact ghG_sound (s41 fu)
  · exact (tb40_sound fu) f own told h

end Go.Proofs.Ytdoikghgblohjaa.V

/- Printed by ugen: (*daisychain/entry.Log).Last -/
namespace Go.Proofs.Ytdoikghgblohjaa.V
set_option maxRecDepth 100000
set_option maxHeartbeats 4000000


noncomputable def code44 : Code := match Try.f44.body with | some c => c | none => .skip

noncomputable def F44 {R : Type} (fu : Nat) (l_base : Int) (l_term : Int) (l_l : List (List D)) (k0 : Int → Option R) : Option R :=
  (k0 (IntKind.i64.wrap (l_base + ofN l_l.length)))

noncomputable def pc44 (fu : Nat) : Nat → Option ToldP := fun _ => none
noncomputable def t44 (fu : Nat) : ToldF := fun _ args s K => match args, s with
  | [.ptr 0 0], [.obj [.int .i64 l_base, .int .i64 l_term, .fz zq0 l_l false]] => (match FT.sames zq0 ft0 with | true => F44 fu l_base l_term l_l (fun o_ => K (.int .i64 o_) [.obj [.int .i64 (l_base), .int .i64 (l_term), .fz ft0 (l_l) false]]) | false => none)
  | _, _ => none

theorem e44 (R : Type) (K : UV → USt → Option R) (fu : Nat) (l_base : Int) (l_term : Int) (l_l : List (List D)) :
    F44 fu l_base l_term l_l (fun o_ => K (.int .i64 o_) [.obj [.int .i64 (l_base), .int .i64 (l_term), .fz ft0 (l_l) false]]) = ufun Try.prog ⟨(tb41 fu), pc44 fu⟩ 300 44 [.ptr 0 0] [.obj [.int .i64 l_base, .int .i64 l_term, .fz ft0 l_l false]] (funK 1 [.gc, .fzC 0 2 ft0, .gc] K) := by kernel_rfl

theorem s44 (fu : Nat) : Tells Try.prog 44 (t44 fu) := by
  refine ufun_sound (T := ⟨(tb41 fu), pc44 fu⟩) (m := 1) (gout := [.gc, .fzC 0 2 ft0, .gc]) (k := 300) (tb41_sound fu) (fun fn body hf hb => ?_) (fun R args s K r h => ?_) (fun R args s K r h => ?_)
  · have hc : body = code44 := by
      have h1 : Try.prog.funcs[44]? = some Try.f44 := rfl
      rw [h1] at hf; cases hf
      have h2 : Try.f44.body = some code44 := rfl
      rw [h2] at hb; cases hb; rfl
    subst hc
    exact SoundPc.none _ _ _
  · unfold t44 at h; split at h
    · rfl
    · cases h
  · unfold t44 at h; split at h
    case h_2 => cases h
    split at h
    case h_2 => cases h
    rename_i hq
    have hq := FT.sames_eq _ _ hq
    subst hq
    exact (e44 R K fu _ _ _).symm.trans h

noncomputable def tb44 (fu : Nat) : FuncId → Option (Bool × ToldF) := fun f => match Nat.beq f 44 with
  | true => some (false, ghG [.gc, .fzC 0 2 ft0, .gc] (t44 fu))
  | false => (tb41 fu) f
theorem tb44_sound (fu : Nat) : SoundF' Try.prog (tb44 fu) := by
  intro f own told h
  unfold tb44 at h
  split at h
  · rename_i hb
    cases h
    have := Nat.eq_of_beq_eq_true hb
    subst this
    exact ghG_sound (s44 fu)
  · exact (tb41_sound fu) f own told h

end Go.Proofs.Ytdoikghgblohjaa.V

/- Printed by ugen: (*daisychain/entry.Log).Term -/
namespace Go.Proofs.Ytdoikghgblohjaa.V
set_option maxRecDepth 100000
set_option maxHeartbeats 4000000


noncomputable def code43 : Code := match Try.f43.body with | some c => c | none => .skip

noncomputable def F43 {R : Type} (fu : Nat) (k_ : Int) (l_base : Int) (l_term : Int) (l_l : List (List D)) (k0 : Int → Bool → Option R) : Option R :=
  bif decide (k_ < l_base) then (k0 0 false) else F44 fu l_base l_term l_l fun o_0 => bif decide (o_0 < k_) then (k0 0 false) else bif decide (k_ = l_base) then (k0 l_term true) else bif within (IntKind.i64.wrap (IntKind.i64.wrap (k_ - l_base) - 1)) l_l.length then (k0 ((cell 0 (elem (IntKind.i64.wrap (IntKind.i64.wrap (k_ - l_base) - 1)).toNat l_l)).toInt) true) else none

noncomputable def pc43 (fu : Nat) : Nat → Option ToldP := fun _ => none
noncomputable def t43 (fu : Nat) : ToldF := fun _ args s K => match args, s with
  | [.ptr 0 0, .int .i64 k_], [.obj [.int .i64 l_base, .int .i64 l_term, .fz zq0 l_l false]] => (match FT.sames zq0 ft0 with | true => F43 fu k_ l_base l_term l_l (fun o_ o_1 => K (.tuple [.int .i64 o_, .bool o_1]) [.obj [.int .i64 (l_base), .int .i64 (l_term), .fz ft0 (l_l) false]]) | false => none)
  | _, _ => none

theorem e43 (R : Type) (K : UV → USt → Option R) (fu : Nat) (k_ : Int) (l_base : Int) (l_term : Int) (l_l : List (List D)) :
    F43 fu k_ l_base l_term l_l (fun o_ o_1 => K (.tuple [.int .i64 o_, .bool o_1]) [.obj [.int .i64 (l_base), .int .i64 (l_term), .fz ft0 (l_l) false]]) = ufun Try.prog ⟨(tb44 fu), pc43 fu⟩ 300 43 [.ptr 0 0, .int .i64 k_] [.obj [.int .i64 l_base, .int .i64 l_term, .fz ft0 l_l false]] (funK 1 [.gc, .fzC 0 2 ft0, .gc] K) := by kernel_rfl

theorem s43 (fu : Nat) : Tells Try.prog 43 (t43 fu) := by
  refine ufun_sound (T := ⟨(tb44 fu), pc43 fu⟩) (m := 1) (gout := [.gc, .fzC 0 2 ft0, .gc]) (k := 300) (tb44_sound fu) (fun fn body hf hb => ?_) (fun R args s K r h => ?_) (fun R args s K r h => ?_)
  · have hc : body = code43 := by
      have h1 : Try.prog.funcs[43]? = some Try.f43 := rfl
      rw [h1] at hf; cases hf
      have h2 : Try.f43.body = some code43 := rfl
      rw [h2] at hb; cases hb; rfl
    subst hc
    exact SoundPc.none _ _ _
  · unfold t43 at h; split at h
    · rfl
    · cases h
  · unfold t43 at h; split at h
    case h_2 => cases h
    split at h
    case h_2 => cases h
    rename_i hq
    have hq := FT.sames_eq _ _ hq
    subst hq
    exact (e43 R K fu _ _ _ _).symm.trans h

noncomputable def tb43 (fu : Nat) : FuncId → Option (Bool × ToldF) := fun f => match Nat.beq f 43 with
  | true => some (false, ghG [.gc, .fzC 0 2 ft0, .gc] (t43 fu))
  | false => (tb44 fu) f
theorem tb43_sound (fu : Nat) : SoundF' Try.prog (tb43 fu) := by
  intro f own told h
  unfold tb43 at h
  split at h
  · rename_i hb
    cases h
    have := Nat.eq_of_beq_eq_true hb
    subst this
    exact ghG_sound (s43 fu)
  · exact (tb44_sound fu) f own told h

end Go.Proofs.Ytdoikghgblohjaa.V

/- Printed by ugen: daisychain/daisychainref11.Last -/
namespace Go.Proofs.Ytdoikghgblohjaa.V
set_option maxRecDepth 100000
set_option maxHeartbeats 4000000


noncomputable def code69 : Code := match Try.f69.body with | some c => c | none => .skip

noncomputable def F69 {R : Type} (fu : Nat) (l : List D) (k0 : Int → Option R) : Option R :=
  (k0 (IntKind.i64.wrap ((cell 0 l).toInt + ofN (cell 2 l).toRows.length)))

noncomputable def pc69 (fu : Nat) : Nat → Option ToldP := fun _ => none
noncomputable def t69 (fu : Nat) : ToldF := fun _ args s K => match args, s with
  | [.agg [.int .i64 q, .int .i64 q1, .fz zq0 q2 false]], [] => (match FT.sames zq0 ft0 with | true => F69 fu [D.int q, D.int q1, D.row q2] (fun o_ => K (.int .i64 o_) []) | false => none)
  | _, _ => none

theorem e69 (R : Type) (K : UV → USt → Option R) (fu : Nat) (q : Int) (q1 : Int) (q2 : List (List D)) :
    F69 fu [D.int q, D.int q1, D.row q2] (fun o_ => K (.int .i64 o_) []) = ufun Try.prog ⟨(tb43 fu), pc69 fu⟩ 300 69 [.agg [.int .i64 q, .int .i64 q1, .fz ft0 q2 false]] [] (funK 0 [.gc] K) := by kernel_rfl

theorem s69 (fu : Nat) : Tells Try.prog 69 (t69 fu) := by
  refine ufun_sound (T := ⟨(tb43 fu), pc69 fu⟩) (m := 0) (gout := [.gc]) (k := 300) (tb43_sound fu) (fun fn body hf hb => ?_) (fun R args s K r h => ?_) (fun R args s K r h => ?_)
  · have hc : body = code69 := by
      have h1 : Try.prog.funcs[69]? = some Try.f69 := rfl
      rw [h1] at hf; cases hf
      have h2 : Try.f69.body = some code69 := rfl
      rw [h2] at hb; cases hb; rfl
    subst hc
    exact SoundPc.none _ _ _
  · unfold t69 at h; split at h
    · rfl
    · cases h
  · unfold t69 at h; split at h
    case h_2 => cases h
    split at h
    case h_2 => cases h
    rename_i hq
    have hq := FT.sames_eq _ _ hq
    subst hq
    exact (e69 R K fu _ _ _).symm.trans h

noncomputable def tb69 (fu : Nat) : FuncId → Option (Bool × ToldF) := fun f => match Nat.beq f 69 with
  | true => some (false, ghG [.fzP 0 [2] ft0] (t69 fu))
  | false => (tb43 fu) f
theorem tb69_sound (fu : Nat) : SoundF' Try.prog (tb69 fu) := by
  intro f own told h
  unfold tb69 at h
  split at h
  · rename_i hb
    cases h
    have := Nat.eq_of_beq_eq_true hb
    subst this
    exact ghG_sound (s69 fu)
  · exact (tb43_sound fu) f own told h

end Go.Proofs.Ytdoikghgblohjaa.V

/- Printed by ugen: daisychain/daisychainref11.TermAt -/
namespace Go.Proofs.Ytdoikghgblohjaa.V
set_option maxRecDepth 100000
set_option maxHeartbeats 4000000


noncomputable def code74 : Code := match Try.f74.body with | some c => c | none => .skip

noncomputable def F74 {R : Type} (fu : Nat) (l : List D) (k_ : Int) (k0 : Int → Bool → Option R) : Option R :=
  bif decide (k_ = (cell 0 l).toInt) then (k0 ((cell 1 l).toInt) true) else bif decide (k_ < (cell 0 l).toInt) then (k0 0 false) else F69 fu [D.int (cell 0 l).toInt, D.int (cell 1 l).toInt, D.row (cell 2 l).toRows] fun o_0 => bif decide (o_0 < k_) then (k0 0 false) else bif within (IntKind.i64.wrap (IntKind.i64.wrap (k_ - (cell 0 l).toInt) - 1)) (cell 2 l).toRows.length then (k0 ((cell 0 (elem (IntKind.i64.wrap (IntKind.i64.wrap (k_ - (cell 0 l).toInt) - 1)).toNat (cell 2 l).toRows)).toInt) true) else none

noncomputable def pc74 (fu : Nat) : Nat → Option ToldP := fun _ => none
noncomputable def t74 (fu : Nat) : ToldF := fun _ args s K => match args, s with
  | [.agg [.int .i64 q, .int .i64 q1, .fz zq0 q2 false], .int .i64 k_], [] => (match FT.sames zq0 ft0 with | true => F74 fu [D.int q, D.int q1, D.row q2] k_ (fun o_ o_1 => K (.tuple [.int .i64 o_, .bool o_1]) []) | false => none)
  | _, _ => none

theorem e74 (R : Type) (K : UV → USt → Option R) (fu : Nat) (q : Int) (q1 : Int) (q2 : List (List D)) (k_ : Int) :
    F74 fu [D.int q, D.int q1, D.row q2] k_ (fun o_ o_1 => K (.tuple [.int .i64 o_, .bool o_1]) []) = ufun Try.prog ⟨(tb69 fu), pc74 fu⟩ 300 74 [.agg [.int .i64 q, .int .i64 q1, .fz ft0 q2 false], .int .i64 k_] [] (funK 0 [.gc] K) := by kernel_rfl

theorem s74 (fu : Nat) : Tells Try.prog 74 (t74 fu) := by
  refine ufun_sound (T := ⟨(tb69 fu), pc74 fu⟩) (m := 0) (gout := [.gc]) (k := 300) (tb69_sound fu) (fun fn body hf hb => ?_) (fun R args s K r h => ?_) (fun R args s K r h => ?_)
  · have hc : body = code74 := by
      have h1 : Try.prog.funcs[74]? = some Try.f74 := rfl
      rw [h1] at hf; cases hf
      have h2 : Try.f74.body = some code74 := rfl
      rw [h2] at hb; cases hb; rfl
    subst hc
    exact SoundPc.none _ _ _
  · unfold t74 at h; split at h
    · rfl
    · cases h
  · unfold t74 at h; split at h
    case h_2 => cases h
    split at h
    case h_2 => cases h
    rename_i hq
    have hq := FT.sames_eq _ _ hq
    subst hq
    exact (e74 R K fu _ _ _ _).symm.trans h

noncomputable def tb74 (fu : Nat) : FuncId → Option (Bool × ToldF) := fun f => match Nat.beq f 74 with
  | true => some (false, ghG [.fzP 0 [2] ft0] (t74 fu))
  | false => (tb69 fu) f
theorem tb74_sound (fu : Nat) : SoundF' Try.prog (tb74 fu) := by
  intro f own told h
  unfold tb74 at h
  split at h
  · rename_i hb
    cases h
    have := Nat.eq_of_beq_eq_true hb
    subst this
    exact ghG_sound (s74 fu)
  · exact (tb69_sound fu) f own told h

end Go.Proofs.Ytdoikghgblohjaa.V

/- Printed by ugen: (*daisychain/entry.Log).Base -/
namespace Go.Proofs.Ytdoikghgblohjaa.V
set_option maxRecDepth 100000
set_option maxHeartbeats 4000000


noncomputable def code55 : Code := match Try.f55.body with | some c => c | none => .skip

noncomputable def F55 {R : Type} (fu : Nat) (l_base : Int) (l_term : Int) (l_l : List (List D)) (k0 : Option R) : Option R :=
  (k0)

noncomputable def pc55 (fu : Nat) : Nat → Option ToldP := fun _ => none
noncomputable def t55 (fu : Nat) : ToldF := fun _ args s K => match args, s with
  | [.ptr 0 0], [.obj [.int .i64 l_base, .int .i64 l_term, .fz zq0 l_l false]] => (match FT.sames zq0 ft0 with | true => F55 fu l_base l_term l_l (K (.int .i64 (l_base)) [.obj [.int .i64 (l_base), .int .i64 (l_term), .fz ft0 (l_l) false]]) | false => none)
  | _, _ => none

theorem e55 (R : Type) (K : UV → USt → Option R) (fu : Nat) (l_base : Int) (l_term : Int) (l_l : List (List D)) :
    F55 fu l_base l_term l_l (K (.int .i64 (l_base)) [.obj [.int .i64 (l_base), .int .i64 (l_term), .fz ft0 (l_l) false]]) = ufun Try.prog ⟨(tb74 fu), pc55 fu⟩ 300 55 [.ptr 0 0] [.obj [.int .i64 l_base, .int .i64 l_term, .fz ft0 l_l false]] (funK 1 [.gc, .fzC 0 2 ft0, .gc] K) := by kernel_rfl

theorem s55 (fu : Nat) : Tells Try.prog 55 (t55 fu) := by
  refine ufun_sound (T := ⟨(tb74 fu), pc55 fu⟩) (m := 1) (gout := [.gc, .fzC 0 2 ft0, .gc]) (k := 300) (tb74_sound fu) (fun fn body hf hb => ?_) (fun R args s K r h => ?_) (fun R args s K r h => ?_)
  · have hc : body = code55 := by
      have h1 : Try.prog.funcs[55]? = some Try.f55 := rfl
      rw [h1] at hf; cases hf
      have h2 : Try.f55.body = some code55 := rfl
      rw [h2] at hb; cases hb; rfl
    subst hc
    exact SoundPc.none _ _ _
  · unfold t55 at h; split at h
    · rfl
    · cases h
  · unfold t55 at h; split at h
    case h_2 => cases h
    split at h
    case h_2 => cases h
    rename_i hq
    have hq := FT.sames_eq _ _ hq
    subst hq
    exact (e55 R K fu _ _ _).symm.trans h

noncomputable def tb55 (fu : Nat) : FuncId → Option (Bool × ToldF) := fun f => match Nat.beq f 55 with
  | true => some (false, ghG [.gc, .fzC 0 2 ft0, .gc] (t55 fu))
  | false => (tb74 fu) f
theorem tb55_sound (fu : Nat) : SoundF' Try.prog (tb55 fu) := by
  intro f own told h
  unfold tb55 at h
  split at h
  · rename_i hb
    cases h
    have := Nat.eq_of_beq_eq_true hb
    subst this
    exact ghG_sound (s55 fu)
  · exact (tb74_sound fu) f own told h

end Go.Proofs.Ytdoikghgblohjaa.V

/- Printed by ugen: (*daisychain/entry.Log).Get -/
namespace Go.Proofs.Ytdoikghgblohjaa.V
set_option maxRecDepth 100000
set_option maxHeartbeats 4000000


noncomputable def code56 : Code := match Try.f56.body with | some c => c | none => .skip

noncomputable def F56 {R : Type} (fu : Nat) (k_ : Int) (l_base : Int) (l_term : Int) (l_l : List (List D)) (k0 : (List D) → Bool → Option R) : Option R :=
  bif decide (k_ ≤ l_base) then (k0 ([D.int 0, D.str ({ data := #[] })]) false) else F44 fu l_base l_term l_l fun o_0 => bif decide (o_0 < k_) then (k0 ([D.int 0, D.str ({ data := #[] })]) false) else bif within (IntKind.i64.wrap (IntKind.i64.wrap (k_ - l_base) - 1)) l_l.length then (k0 ((elem (IntKind.i64.wrap (IntKind.i64.wrap (k_ - l_base) - 1)).toNat l_l)) true) else none

noncomputable def pc56 (fu : Nat) : Nat → Option ToldP := fun _ => none
noncomputable def t56 (fu : Nat) : ToldF := fun _ args s K => match args, s with
  | [.ptr 0 0, .int .i64 k_], [.obj [.int .i64 l_base, .int .i64 l_term, .fz zq0 l_l false]] => (match FT.sames zq0 ft0 with | true => F56 fu k_ l_base l_term l_l (fun o_ o_1 => K (.tuple [.agg (ofDs 0 ft0 o_), .bool o_1]) [.obj [.int .i64 (l_base), .int .i64 (l_term), .fz ft0 (l_l) false]]) | false => none)
  | _, _ => none

theorem e56 (R : Type) (K : UV → USt → Option R) (fu : Nat) (k_ : Int) (l_base : Int) (l_term : Int) (l_l : List (List D)) :
    F56 fu k_ l_base l_term l_l (fun o_ o_1 => K (.tuple [.agg (ofDs 0 ft0 o_), .bool o_1]) [.obj [.int .i64 (l_base), .int .i64 (l_term), .fz ft0 (l_l) false]]) = ufun Try.prog ⟨(tb55 fu), pc56 fu⟩ 300 56 [.ptr 0 0, .int .i64 k_] [.obj [.int .i64 l_base, .int .i64 l_term, .fz ft0 l_l false]] (funK 1 [.gc, .fzC 0 2 ft0, .gc] K) := by kernel_rfl

theorem s56 (fu : Nat) : Tells Try.prog 56 (t56 fu) := by
  refine ufun_sound (T := ⟨(tb55 fu), pc56 fu⟩) (m := 1) (gout := [.gc, .fzC 0 2 ft0, .gc]) (k := 300) (tb55_sound fu) (fun fn body hf hb => ?_) (fun R args s K r h => ?_) (fun R args s K r h => ?_)
  · have hc : body = code56 := by
      have h1 : Try.prog.funcs[56]? = some Try.f56 := rfl
      rw [h1] at hf; cases hf
      have h2 : Try.f56.body = some code56 := rfl
      rw [h2] at hb; cases hb; rfl
    subst hc
    exact SoundPc.none _ _ _
  · unfold t56 at h; split at h
    · rfl
    · cases h
  · unfold t56 at h; split at h
    case h_2 => cases h
    split at h
    case h_2 => cases h
    rename_i hq
    have hq := FT.sames_eq _ _ hq
    subst hq
    exact (e56 R K fu _ _ _ _).symm.trans h

noncomputable def tb56 (fu : Nat) : FuncId → Option (Bool × ToldF) := fun f => match Nat.beq f 56 with
  | true => some (false, ghG [.gc, .fzC 0 2 ft0, .gc] (t56 fu))
  | false => (tb55 fu) f
theorem tb56_sound (fu : Nat) : SoundF' Try.prog (tb56 fu) := by
  intro f own told h
  unfold tb56 at h
  split at h
  · rename_i hb
    cases h
    have := Nat.eq_of_beq_eq_true hb
    subst this
    exact ghG_sound (s56 fu)
  · exact (tb55_sound fu) f own told h

end Go.Proofs.Ytdoikghgblohjaa.V

/- Printed by ugen: (*daisychain/entry.Log).Copy -/
namespace Go.Proofs.Ytdoikghgblohjaa.V
set_option maxRecDepth 100000
set_option maxHeartbeats 4000000


noncomputable def code57 : Code := match Try.f57.body with | some c => c | none => .skip

noncomputable def F57 {R : Type} (fu : Nat) (l_base : Int) (l_term : Int) (l_l : List (List D)) (k0 : Option R) : Option R :=
  bif fits l_l.length 24 then (k0) else none

noncomputable def pc57 (fu : Nat) : Nat → Option ToldP := fun _ => none
noncomputable def t57 (fu : Nat) : ToldF := fun _ args s K => match args, s with
  | [.ptr 0 0], [.obj [.int .i64 l_base, .int .i64 l_term, .fz zq0 l_l false]] => (match FT.sames zq0 ft0 with | true => F57 fu l_base l_term l_l (K (.ptr 1 0) [.obj [.int .i64 (l_base), .int .i64 (l_term), .fz ft0 (l_l) false], .obj [.int .i64 (l_base), .int .i64 (l_term), .fz ft0 (l_l) false]]) | false => none)
  | _, _ => none

theorem e57 (R : Type) (K : UV → USt → Option R) (fu : Nat) (l_base : Int) (l_term : Int) (l_l : List (List D)) :
    F57 fu l_base l_term l_l (K (.ptr 1 0) [.obj [.int .i64 (l_base), .int .i64 (l_term), .fz ft0 (l_l) false], .obj [.int .i64 (l_base), .int .i64 (l_term), .fz ft0 (l_l) false]]) = ufun Try.prog ⟨(tb56 fu), pc57 fu⟩ 300 57 [.ptr 0 0] [.obj [.int .i64 l_base, .int .i64 l_term, .fz ft0 l_l false]] (funK 1 [.gc, .fzC 0 2 ft0, .fzC 1 2 ft0, .gc] K) := by kernel_rfl

theorem s57 (fu : Nat) : Tells Try.prog 57 (t57 fu) := by
  refine ufun_sound (T := ⟨(tb56 fu), pc57 fu⟩) (m := 1) (gout := [.gc, .fzC 0 2 ft0, .fzC 1 2 ft0, .gc]) (k := 300) (tb56_sound fu) (fun fn body hf hb => ?_) (fun R args s K r h => ?_) (fun R args s K r h => ?_)
  · have hc : body = code57 := by
      have h1 : Try.prog.funcs[57]? = some Try.f57 := rfl
      rw [h1] at hf; cases hf
      have h2 : Try.f57.body = some code57 := rfl
      rw [h2] at hb; cases hb; rfl
    subst hc
    exact SoundPc.none _ _ _
  · unfold t57 at h; split at h
    · rfl
    · cases h
  · unfold t57 at h; split at h
    case h_2 => cases h
    split at h
    case h_2 => cases h
    rename_i hq
    have hq := FT.sames_eq _ _ hq
    subst hq
    exact (e57 R K fu _ _ _).symm.trans h

noncomputable def tb57 (fu : Nat) : FuncId → Option (Bool × ToldF) := fun f => match Nat.beq f 57 with
  | true => some (false, ghG [.gc, .fzC 0 2 ft0, .gc] (t57 fu))
  | false => (tb56 fu) f
theorem tb57_sound (fu : Nat) : SoundF' Try.prog (tb57 fu) := by
  intro f own told h
  unfold tb57 at h
  split at h
  · rename_i hb
    cases h
    have := Nat.eq_of_beq_eq_true hb
    subst this
    exact ghG_sound (s57 fu)
  · exact (tb56_sound fu) f own told h

end Go.Proofs.Ytdoikghgblohjaa.V

/- Printed by ugen: (*daisychain/entry.Log).Add -/
namespace Go.Proofs.Ytdoikghgblohjaa.V
set_option maxRecDepth 100000
set_option maxHeartbeats 4000000


noncomputable def code53 : Code := match Try.f53.body with | some c => c | none => .skip

noncomputable def F53 {R : Type} (fu : Nat) (e : List D) (l_base : Int) (l_term : Int) (l_l : List (List D)) (k0 : Int → (List (List D)) → Option R) : Option R :=
  bif decide (ofN l_l.length = 0) && decide (ofN l_l.length = 0) then F44 fu l_base l_term [[D.int (cell 0 e).toInt, D.str (cell 1 e).toStr]] fun o_0 => (k0 o_0 ([[D.int (cell 0 e).toInt, D.str (cell 1 e).toStr]])) else bif decide (0 ≤ 0 ∧ 0 ≤ ofN l_l.length) && upTo (ofN l_l.length) l_l.length && decide (ofN l_l.length = ofN l_l.length) then bif fits ((part l_l 0 (ofN l_l.length).toNat).length + 1) 24 then F44 fu l_base l_term (part l_l 0 (ofN l_l.length).toNat ++ [[D.int (cell 0 e).toInt, D.str (cell 1 e).toStr]]) fun o_1 => (k0 o_1 (part l_l 0 (ofN l_l.length).toNat ++ [[D.int (cell 0 e).toInt, D.str (cell 1 e).toStr]])) else none else none

noncomputable def pc53 (fu : Nat) : Nat → Option ToldP := fun _ => none
noncomputable def t53 (fu : Nat) : ToldF := fun _ args s K => match args, s with
  | [.ptr 0 0, .agg [.int .i64 q, .str q1]], [.obj [.int .i64 l_base, .int .i64 l_term, .fz zq0 l_l false]] => (match FT.sames zq0 ft0 with | true => F53 fu [D.int q, D.str q1] l_base l_term l_l (fun o_ o_1 => K (.int .i64 o_) [.obj [.int .i64 (l_base), .int .i64 (l_term), .fz ft0 o_1 false]]) | false => none)
  | _, _ => none

theorem e53 (R : Type) (K : UV → USt → Option R) (fu : Nat) (q : Int) (q1 : ByteArray) (l_base : Int) (l_term : Int) (l_l : List (List D)) :
    F53 fu [D.int q, D.str q1] l_base l_term l_l (fun o_ o_1 => K (.int .i64 o_) [.obj [.int .i64 (l_base), .int .i64 (l_term), .fz ft0 o_1 false]]) = ufun Try.prog ⟨(tb57 fu), pc53 fu⟩ 300 53 [.ptr 0 0, .agg [.int .i64 q, .str q1]] [.obj [.int .i64 l_base, .int .i64 l_term, .fz ft0 l_l false]] (funK 1 [.gc, .fzC 0 2 ft0, .gc] K) := by kernel_rfl

theorem s53 (fu : Nat) : Tells Try.prog 53 (t53 fu) := by
  refine ufun_sound (T := ⟨(tb57 fu), pc53 fu⟩) (m := 1) (gout := [.gc, .fzC 0 2 ft0, .gc]) (k := 300) (tb57_sound fu) (fun fn body hf hb => ?_) (fun R args s K r h => ?_) (fun R args s K r h => ?_)
  · have hc : body = code53 := by
      have h1 : Try.prog.funcs[53]? = some Try.f53 := rfl
      rw [h1] at hf; cases hf
      have h2 : Try.f53.body = some code53 := rfl
      rw [h2] at hb; cases hb; rfl
    subst hc
    exact SoundPc.none _ _ _
  · unfold t53 at h; split at h
    · rfl
    · cases h
  · unfold t53 at h; split at h
    case h_2 => cases h
    split at h
    case h_2 => cases h
    rename_i hq
    have hq := FT.sames_eq _ _ hq
    subst hq
    exact (e53 R K fu _ _ _ _ _).symm.trans h

noncomputable def tb53 (fu : Nat) : FuncId → Option (Bool × ToldF) := fun f => match Nat.beq f 53 with
  | true => some (false, ghG [.gc, .fzC 0 2 ft0, .gc] (t53 fu))
  | false => (tb57 fu) f
theorem tb53_sound (fu : Nat) : SoundF' Try.prog (tb53 fu) := by
  intro f own told h
  unfold tb53 at h
  split at h
  · rename_i hb
    cases h
    have := Nat.eq_of_beq_eq_true hb
    subst this
    exact ghG_sound (s53 fu)
  · exact (tb57_sound fu) f own told h

end Go.Proofs.Ytdoikghgblohjaa.V

/- Printed by ugen: (*daisychain/entry.Log).Pass -/
namespace Go.Proofs.Ytdoikghgblohjaa.V
set_option maxRecDepth 100000
set_option maxHeartbeats 4000000


noncomputable def code54 : Code := match Try.f54.body with | some c => c | none => .skip

noncomputable def F54 {R : Type} (fu : Nat) (k_ : Int) (l_base : Int) (l_term : Int) (l_l : List (List D)) (k0 : Int → Int → Int → (List (List D)) → Option R) : Option R :=
  F43 fu k_ l_base l_term l_l fun o_0 o_1 => bif !o_1 then (k0 1 l_base l_term l_l) else bif decide (0 ≤ IntKind.i64.wrap (k_ - l_base) ∧ IntKind.i64.wrap (k_ - l_base) ≤ ofN l_l.length) && upTo (ofN l_l.length) l_l.length then bif fits (part l_l (IntKind.i64.wrap (k_ - l_base)).toNat (ofN l_l.length).toNat).length 24 then (k0 0 k_ o_0 (part l_l (IntKind.i64.wrap (k_ - l_base)).toNat (ofN l_l.length).toNat)) else none else none

noncomputable def pc54 (fu : Nat) : Nat → Option ToldP := fun _ => none
noncomputable def t54 (fu : Nat) : ToldF := fun _ args s K => match args, s with
  | [.ptr 0 0, .int .i64 k_], [.obj [.int .i64 l_base, .int .i64 l_term, .fz zq0 l_l false]] => (match FT.sames zq0 ft0 with | true => F54 fu k_ l_base l_term l_l (fun o_ o_1 o_2 o_3 => K (.int .i64 o_) [.obj [.int .i64 o_1, .int .i64 o_2, .fz ft0 o_3 false]]) | false => none)
  | _, _ => none

theorem e54 (R : Type) (K : UV → USt → Option R) (fu : Nat) (k_ : Int) (l_base : Int) (l_term : Int) (l_l : List (List D)) :
    F54 fu k_ l_base l_term l_l (fun o_ o_1 o_2 o_3 => K (.int .i64 o_) [.obj [.int .i64 o_1, .int .i64 o_2, .fz ft0 o_3 false]]) = ufun Try.prog ⟨(tb53 fu), pc54 fu⟩ 300 54 [.ptr 0 0, .int .i64 k_] [.obj [.int .i64 l_base, .int .i64 l_term, .fz ft0 l_l false]] (funK 1 [.gc, .fzC 0 2 ft0, .gc] K) := by kernel_rfl

theorem s54 (fu : Nat) : Tells Try.prog 54 (t54 fu) := by
  refine ufun_sound (T := ⟨(tb53 fu), pc54 fu⟩) (m := 1) (gout := [.gc, .fzC 0 2 ft0, .gc]) (k := 300) (tb53_sound fu) (fun fn body hf hb => ?_) (fun R args s K r h => ?_) (fun R args s K r h => ?_)
  · have hc : body = code54 := by
      have h1 : Try.prog.funcs[54]? = some Try.f54 := rfl
      rw [h1] at hf; cases hf
      have h2 : Try.f54.body = some code54 := rfl
      rw [h2] at hb; cases hb; rfl
    subst hc
    exact SoundPc.none _ _ _
  · unfold t54 at h; split at h
    · rfl
    · cases h
  · unfold t54 at h; split at h
    case h_2 => cases h
    split at h
    case h_2 => cases h
    rename_i hq
    have hq := FT.sames_eq _ _ hq
    subst hq
    exact (e54 R K fu _ _ _ _).symm.trans h

noncomputable def tb54 (fu : Nat) : FuncId → Option (Bool × ToldF) := fun f => match Nat.beq f 54 with
  | true => some (false, ghG [.gc, .fzC 0 2 ft0, .gc] (t54 fu))
  | false => (tb53 fu) f
theorem tb54_sound (fu : Nat) : SoundF' Try.prog (tb54 fu) := by
  intro f own told h
  unfold tb54 at h
  split at h
  · rename_i hb
    cases h
    have := Nat.eq_of_beq_eq_true hb
    subst this
    exact ghG_sound (s54 fu)
  · exact (tb53_sound fu) f own told h

end Go.Proofs.Ytdoikghgblohjaa.V

/- Printed by ugen: cmp.isNaN[int] -/
namespace Go.Proofs.Ytdoikghgblohjaa.V
set_option maxRecDepth 100000
set_option maxHeartbeats 4000000


noncomputable def code81 : Code := match Try.f81.body with | some c => c | none => .skip

noncomputable def F81 {R : Type} (fu : Nat) (x : Int) (k0 : Bool → Option R) : Option R :=
  (k0 (!decide (x = x)))

noncomputable def pc81 (fu : Nat) : Nat → Option ToldP := fun _ => none
noncomputable def t81 (fu : Nat) : ToldF := fun _ args s K => match args, s with
  | [.int .i64 x], [] => F81 fu x (fun o_ => K (.bool o_) [])
  | _, _ => none

theorem e81 (R : Type) (K : UV → USt → Option R) (fu : Nat) (x : Int) :
    F81 fu x (fun o_ => K (.bool o_) []) = ufun Try.prog ⟨(tb54 fu), pc81 fu⟩ 300 81 [.int .i64 x] [] (funK 0 [.gc] K) := by kernel_rfl

theorem s81 (fu : Nat) : Tells Try.prog 81 (t81 fu) := by
  refine ufun_sound (T := ⟨(tb54 fu), pc81 fu⟩) (m := 0) (gout := [.gc]) (k := 300) (tb54_sound fu) (fun fn body hf hb => ?_) (fun R args s K r h => ?_) (fun R args s K r h => ?_)
  · have hc : body = code81 := by
      have h1 : Try.prog.funcs[81]? = some Try.f81 := rfl
      rw [h1] at hf; cases hf
      have h2 : Try.f81.body = some code81 := rfl
      rw [h2] at hb; cases hb; rfl
    subst hc
    exact SoundPc.none _ _ _
  · unfold t81 at h; split at h
    · rfl
    · cases h
  · unfold t81 at h; split at h
    case h_2 => cases h
    exact (e81 R K fu _).symm.trans h

noncomputable def tb81 (fu : Nat) : FuncId → Option (Bool × ToldF) := fun f => match Nat.beq f 81 with
  | true => some (false, ghG [] (t81 fu))
  | false => (tb54 fu) f
theorem tb81_sound (fu : Nat) : SoundF' Try.prog (tb81 fu) := by
  intro f own told h
  unfold tb81 at h
  split at h
  · rename_i hb
    cases h
    have := Nat.eq_of_beq_eq_true hb
    subst this
    exact ghG_sound (s81 fu)
  · exact (tb54_sound fu) f own told h

end Go.Proofs.Ytdoikghgblohjaa.V

/- Printed by ugen: cmp.Compare[int] -/
namespace Go.Proofs.Ytdoikghgblohjaa.V
set_option maxRecDepth 100000
set_option maxHeartbeats 4000000


noncomputable def code73 : Code := match Try.f73.body with | some c => c | none => .skip

noncomputable def F73 {R : Type} (fu : Nat) (x : Int) (y : Int) (k0 : Int → Option R) : Option R :=
  F81 fu x fun o_0 => F81 fu y fun o_1 => bif o_0 then bif o_1 then (k0 0) else (k0 (-1)) else bif o_1 then (k0 1) else bif decide (x < y) then (k0 (-1)) else bif decide (y < x) then (k0 1) else (k0 0)

noncomputable def pc73 (fu : Nat) : Nat → Option ToldP := fun _ => none
noncomputable def t73 (fu : Nat) : ToldF := fun _ args s K => match args, s with
  | [.int .i64 x, .int .i64 y], [] => F73 fu x y (fun o_ => K (.int .i64 o_) [])
  | _, _ => none

theorem e73 (R : Type) (K : UV → USt → Option R) (fu : Nat) (x : Int) (y : Int) :
    F73 fu x y (fun o_ => K (.int .i64 o_) []) = ufun Try.prog ⟨(tb81 fu), pc73 fu⟩ 300 73 [.int .i64 x, .int .i64 y] [] (funK 0 [.gc] K) := by kernel_rfl

theorem s73 (fu : Nat) : Tells Try.prog 73 (t73 fu) := by
  refine ufun_sound (T := ⟨(tb81 fu), pc73 fu⟩) (m := 0) (gout := [.gc]) (k := 300) (tb81_sound fu) (fun fn body hf hb => ?_) (fun R args s K r h => ?_) (fun R args s K r h => ?_)
  · have hc : body = code73 := by
      have h1 : Try.prog.funcs[73]? = some Try.f73 := rfl
      rw [h1] at hf; cases hf
      have h2 : Try.f73.body = some code73 := rfl
      rw [h2] at hb; cases hb; rfl
    subst hc
    exact SoundPc.none _ _ _
  · unfold t73 at h; split at h
    · rfl
    · cases h
  · unfold t73 at h; split at h
    case h_2 => cases h
    exact (e73 R K fu _ _).symm.trans h

noncomputable def tb73 (fu : Nat) : FuncId → Option (Bool × ToldF) := fun f => match Nat.beq f 73 with
  | true => some (false, ghG [] (t73 fu))
  | false => (tb81 fu) f
theorem tb73_sound (fu : Nat) : SoundF' Try.prog (tb73 fu) := by
  intro f own told h
  unfold tb73 at h
  split at h
  · rename_i hb
    cases h
    have := Nat.eq_of_beq_eq_true hb
    subst this
    exact ghG_sound (s73 fu)
  · exact (tb81_sound fu) f own told h

end Go.Proofs.Ytdoikghgblohjaa.V

/- Printed by ugen: cmp.Or[int] -/
namespace Go.Proofs.Ytdoikghgblohjaa.V
set_option maxRecDepth 100000
set_option maxHeartbeats 4000000

abbrev ft2 : List FT := [FT.int IntKind.i64]

noncomputable def code72 : Code := match Try.f72.body with | some c => c | none => .skip
theorem a72_58 : codeAt code72 58 = some (.loop (loopBody (codeAt code72 58))) := by kernel_rfl
noncomputable def F72_58 {R : Type} (fu : Nat) (zero : Int) (x : List (List D)) (x1 : Int) : Nat → Int → (Int → Option R) → (Option R) → Option R
  | 0, _, _, _ => none
  | n + 1, x2, k0, k1 => bif decide (x2 < x1) then bif within x2 x.length then bif !decide ((cell 0 (elem x2.toNat x)).toInt = zero) then (k0 ((cell 0 (elem x2.toNat x)).toInt)) else (F72_58 fu zero x x1 n (IntKind.i64.wrap (x2 + 1)) k0 k1) else none else (k1)

noncomputable def t72_58 (fu n : Nat) : ToldP := fun _ e s K => match e, s with
  | [.int .i64 zero, .fz zq0 x false, .int .i64 x1, .int .i64 x2], [] => (match FT.sames zq0 ft2 with | true => F72_58 fu zero x x1 n x2 (fun o_ => K .ret (unpackM (bitsM 4 0xc) [.int .i64 o_, .int .i64 (zero)]) []) (K (.exit 0) (unpackM (bitsM 4 0x8) [.int .i64 (zero)]) []) | false => none)
  | _, _ => none

noncomputable def pc72_58 (fu : Nat) : Nat → Option ToldP := fun _ => none
theorem e72_58 (fu n : Nat) (R : Type) (K : VExit → UEnv → USt → Option R) (zero : Int) (x : List (List D)) (x1 : Int) (x2 : Int) :
    F72_58 fu zero x x1 (n + 1) x2 (fun o_ => K .ret (unpackM (bitsM 4 0xc) [.int .i64 o_, .int .i64 (zero)]) []) (K (.exit 0) (unpackM (bitsM 4 0x8) [.int .i64 (zero)]) []) = uexec Try.prog (tb73 fu) 300 (pc72_58 fu) 116 (loopBody (codeAt code72 58)) (unpackM (bitsM 9 0x1c8) [.int .i64 zero, .fz ft2 x false, .int .i64 x1, .int .i64 x2]) [] (loopK 0 [.live (bitsM 9 0x1c8), .fzP 6 [] ft2, .gc] [.live (bitsM 4 0xc), .gc] (pkP (bitsM 9 0x1c8) (t72_58 fu n)) K) := by kernel_rfl

theorem p72_58 (fu : Nat) : SoundPc Try.prog 0 code72 (pc72_58 fu) := SoundPc.none _ _ _
theorem s72_58 (fu : Nat) : ∀ n, SoundP Try.prog 0 (.loop (loopBody (codeAt code72 58))) (pkP (bitsM 9 0x1c8) (t72_58 fu n)) := by
  refine loopP_sound (gin := [.live (bitsM 9 0x1c8), .fzP 6 [] ft2, .gc]) (gout := [.live (bitsM 4 0xc), .gc]) (k := 300) (tb73_sound fu) (p72_58 fu) (by decide) a72_58 (fun R e s K => ?_) (fun n R e s K r h => ?_)
  · unfold t72_58; repeat' split
    all_goals rfl
  · unfold t72_58 at h; split at h
    case h_2 => cases h
    split at h
    case h_2 => cases h
    rename_i hq
    have hq := FT.sames_eq _ _ hq
    subst hq
    exact (e72_58 fu n R K _ _ _ _).symm.trans h


noncomputable def F72 {R : Type} (fu : Nat) (vals : List (List D)) (k0 : Int → Option R) : Option R :=
  F72_58 fu 0 vals (ofN vals.length) fu 0 (fun o_0 => (k0 o_0)) ((k0 0))

noncomputable def pc72 (fu : Nat) : Nat → Option ToldP := fun p => match Nat.beq p 58 with | true => some (ghP 0 [.live (bitsM 9 0x1c8), .fzP 6 [] ft2, .gc] (pkP (bitsM 9 0x1c8) (t72_58 fu fu))) | false => none
noncomputable def t72 (fu : Nat) : ToldF := fun _ args s K => match args, s with
  | [.fz zq0 vals false], [] => (match FT.sames zq0 ft2 with | true => F72 fu vals (fun o_ => K (.int .i64 o_) []) | false => none)
  | _, _ => none

theorem e72 (R : Type) (K : UV → USt → Option R) (fu : Nat) (vals : List (List D)) :
    F72 fu vals (fun o_ => K (.int .i64 o_) []) = ufun Try.prog ⟨(tb73 fu), pc72 fu⟩ 300 72 [.fz ft2 vals false] [] (funK 0 [.gc] K) := by kernel_rfl

theorem s72 (fu : Nat) : Tells Try.prog 72 (t72 fu) := by
  refine ufun_sound (T := ⟨(tb73 fu), pc72 fu⟩) (m := 0) (gout := [.gc]) (k := 300) (tb73_sound fu) (fun fn body hf hb => ?_) (fun R args s K r h => ?_) (fun R args s K r h => ?_)
  · have hc : body = code72 := by
      have h1 : Try.prog.funcs[72]? = some Try.f72 := rfl
      rw [h1] at hf; cases hf
      have h2 : Try.f72.body = some code72 := rfl
      rw [h2] at hb; cases hb; rfl
    subst hc
    exact fun p told h b hb => by
      replace h : pc72 fu p = some told := h
      unfold pc72 at h
      split at h
      · rename_i hp
        cases h
        have := Nat.eq_of_beq_eq_true hp
        subst this
        rw [a72_58] at hb
        cases hb
        exact ghP_sound (s72_58 fu _)
      ·
        cases h

  · unfold t72 at h; split at h
    · rfl
    · cases h
  · unfold t72 at h; split at h
    case h_2 => cases h
    split at h
    case h_2 => cases h
    rename_i hq
    have hq := FT.sames_eq _ _ hq
    subst hq
    exact (e72 R K fu _).symm.trans h

noncomputable def tb72 (fu : Nat) : FuncId → Option (Bool × ToldF) := fun f => match Nat.beq f 72 with
  | true => some (false, ghG [.fzP 0 [] ft2] (t72 fu))
  | false => (tb73 fu) f
theorem tb72_sound (fu : Nat) : SoundF' Try.prog (tb72 fu) := by
  intro f own told h
  unfold tb72 at h
  split at h
  · rename_i hb
    cases h
    have := Nat.eq_of_beq_eq_true hb
    subst this
    exact ghG_sound (s72 fu)
  · exact (tb73_sound fu) f own told h

end Go.Proofs.Ytdoikghgblohjaa.V

/- Printed by ugen: (*daisychain/entry.Log).Newer -/
namespace Go.Proofs.Ytdoikghgblohjaa.V
set_option maxRecDepth 100000
set_option maxHeartbeats 4000000


noncomputable def code45 : Code := match Try.f45.body with | some c => c | none => .skip

noncomputable def F45 {R : Type} (fu : Nat) (last : Int) (term : Int) (l_base : Int) (l_term : Int) (l_l : List (List D)) (k0 : Bool → Option R) : Option R :=
  F44 fu l_base l_term l_l fun o_0 => F43 fu o_0 l_base l_term l_l fun o_1 o_2 => F73 fu term o_1 fun o_3 => F44 fu l_base l_term l_l fun o_4 => F73 fu last o_4 fun o_5 => F72 fu [[D.int o_3], [D.int o_5]] fun o_6 => (k0 (decide (0 ≤ o_6)))

noncomputable def pc45 (fu : Nat) : Nat → Option ToldP := fun _ => none
noncomputable def t45 (fu : Nat) : ToldF := fun _ args s K => match args, s with
  | [.ptr 0 0, .int .i64 last, .int .i64 term], [.obj [.int .i64 l_base, .int .i64 l_term, .fz zq0 l_l false]] => (match FT.sames zq0 ft0 with | true => F45 fu last term l_base l_term l_l (fun o_ => K (.bool o_) [.obj [.int .i64 (l_base), .int .i64 (l_term), .fz ft0 (l_l) false]]) | false => none)
  | _, _ => none

theorem e45 (R : Type) (K : UV → USt → Option R) (fu : Nat) (last : Int) (term : Int) (l_base : Int) (l_term : Int) (l_l : List (List D)) :
    F45 fu last term l_base l_term l_l (fun o_ => K (.bool o_) [.obj [.int .i64 (l_base), .int .i64 (l_term), .fz ft0 (l_l) false]]) = ufun Try.prog ⟨(tb72 fu), pc45 fu⟩ 300 45 [.ptr 0 0, .int .i64 last, .int .i64 term] [.obj [.int .i64 l_base, .int .i64 l_term, .fz ft0 l_l false]] (funK 1 [.gc, .fzC 0 2 ft0, .gc] K) := by kernel_rfl

theorem s45 (fu : Nat) : Tells Try.prog 45 (t45 fu) := by
  refine ufun_sound (T := ⟨(tb72 fu), pc45 fu⟩) (m := 1) (gout := [.gc, .fzC 0 2 ft0, .gc]) (k := 300) (tb72_sound fu) (fun fn body hf hb => ?_) (fun R args s K r h => ?_) (fun R args s K r h => ?_)
  · have hc : body = code45 := by
      have h1 : Try.prog.funcs[45]? = some Try.f45 := rfl
      rw [h1] at hf; cases hf
      have h2 : Try.f45.body = some code45 := rfl
      rw [h2] at hb; cases hb; rfl
    subst hc
    exact SoundPc.none _ _ _
  · unfold t45 at h; split at h
    · rfl
    · cases h
  · unfold t45 at h; split at h
    case h_2 => cases h
    split at h
    case h_2 => cases h
    rename_i hq
    have hq := FT.sames_eq _ _ hq
    subst hq
    exact (e45 R K fu _ _ _ _ _).symm.trans h

noncomputable def tb45 (fu : Nat) : FuncId → Option (Bool × ToldF) := fun f => match Nat.beq f 45 with
  | true => some (false, ghG [.gc, .fzC 0 2 ft0, .gc] (t45 fu))
  | false => (tb72 fu) f
theorem tb45_sound (fu : Nat) : SoundF' Try.prog (tb45 fu) := by
  intro f own told h
  unfold tb45 at h
  split at h
  · rename_i hb
    cases h
    have := Nat.eq_of_beq_eq_true hb
    subst this
    exact ghG_sound (s45 fu)
  · exact (tb72_sound fu) f own told h

end Go.Proofs.Ytdoikghgblohjaa.V

/- Printed by ugen: daisychain/daisychainref11.Newer -/
namespace Go.Proofs.Ytdoikghgblohjaa.V
set_option maxRecDepth 100000
set_option maxHeartbeats 4000000


noncomputable def code46 : Code := match Try.f46.body with | some c => c | none => .skip

noncomputable def F46 {R : Type} (fu : Nat) (l : List D) (last : Int) (term : Int) (k0 : Bool → Option R) : Option R :=
  F69 fu [D.int (cell 0 l).toInt, D.int (cell 1 l).toInt, D.row (cell 2 l).toRows] fun o_0 => F74 fu [D.int (cell 0 l).toInt, D.int (cell 1 l).toInt, D.row (cell 2 l).toRows] o_0 fun o_1 o_2 => bif decide (o_1 < term) then (k0 true) else bif decide (term = o_1) then F69 fu [D.int (cell 0 l).toInt, D.int (cell 1 l).toInt, D.row (cell 2 l).toRows] fun o_3 => (k0 (decide (o_3 ≤ last))) else (k0 false)

noncomputable def pc46 (fu : Nat) : Nat → Option ToldP := fun _ => none
noncomputable def t46 (fu : Nat) : ToldF := fun _ args s K => match args, s with
  | [.agg [.int .i64 q, .int .i64 q1, .fz zq0 q2 false], .int .i64 last, .int .i64 term], [] => (match FT.sames zq0 ft0 with | true => F46 fu [D.int q, D.int q1, D.row q2] last term (fun o_ => K (.bool o_) []) | false => none)
  | _, _ => none

theorem e46 (R : Type) (K : UV → USt → Option R) (fu : Nat) (q : Int) (q1 : Int) (q2 : List (List D)) (last : Int) (term : Int) :
    F46 fu [D.int q, D.int q1, D.row q2] last term (fun o_ => K (.bool o_) []) = ufun Try.prog ⟨(tb45 fu), pc46 fu⟩ 300 46 [.agg [.int .i64 q, .int .i64 q1, .fz ft0 q2 false], .int .i64 last, .int .i64 term] [] (funK 0 [.gc] K) := by kernel_rfl

theorem s46 (fu : Nat) : Tells Try.prog 46 (t46 fu) := by
  refine ufun_sound (T := ⟨(tb45 fu), pc46 fu⟩) (m := 0) (gout := [.gc]) (k := 300) (tb45_sound fu) (fun fn body hf hb => ?_) (fun R args s K r h => ?_) (fun R args s K r h => ?_)
  · have hc : body = code46 := by
      have h1 : Try.prog.funcs[46]? = some Try.f46 := rfl
      rw [h1] at hf; cases hf
      have h2 : Try.f46.body = some code46 := rfl
      rw [h2] at hb; cases hb; rfl
    subst hc
    exact SoundPc.none _ _ _
  · unfold t46 at h; split at h
    · rfl
    · cases h
  · unfold t46 at h; split at h
    case h_2 => cases h
    split at h
    case h_2 => cases h
    rename_i hq
    have hq := FT.sames_eq _ _ hq
    subst hq
    exact (e46 R K fu _ _ _ _ _).symm.trans h

noncomputable def tb46 (fu : Nat) : FuncId → Option (Bool × ToldF) := fun f => match Nat.beq f 46 with
  | true => some (false, ghG [.fzP 0 [2] ft0] (t46 fu))
  | false => (tb45 fu) f
theorem tb46_sound (fu : Nat) : SoundF' Try.prog (tb46 fu) := by
  intro f own told h
  unfold tb46 at h
  split at h
  · rename_i hb
    cases h
    have := Nat.eq_of_beq_eq_true hb
    subst this
    exact ghG_sound (s46 fu)
  · exact (tb45_sound fu) f own told h

end Go.Proofs.Ytdoikghgblohjaa.V

/- Printed by ugen: daisychain/daisychainref11.Pass -/
namespace Go.Proofs.Ytdoikghgblohjaa.V
set_option maxRecDepth 100000
set_option maxHeartbeats 4000000


noncomputable def code71 : Code := match Try.f71.body with | some c => c | none => .skip

noncomputable def F71 {R : Type} (fu : Nat) (l : List D) (k_ : Int) (k0 : (List D) → Int → Option R) : Option R :=
  F74 fu [D.int (cell 0 l).toInt, D.int (cell 1 l).toInt, D.row (cell 2 l).toRows] k_ fun o_0 o_1 => bif !o_1 then (k0 l 1) else bif decide (0 ≤ IntKind.i64.wrap (k_ - (cell 0 l).toInt) ∧ IntKind.i64.wrap (k_ - (cell 0 l).toInt) ≤ ofN (cell 2 l).toRows.length) && upTo (ofN (cell 2 l).toRows.length) (cell 2 l).toRows.length then (k0 [D.int k_, D.int o_0, D.row (part (cell 2 l).toRows (IntKind.i64.wrap (k_ - (cell 0 l).toInt)).toNat (ofN (cell 2 l).toRows.length).toNat)] 0) else none

noncomputable def pc71 (fu : Nat) : Nat → Option ToldP := fun _ => none
noncomputable def t71 (fu : Nat) : ToldF := fun _ args s K => match args, s with
  | [.agg [.int .i64 q, .int .i64 q1, .fz zq0 q2 false], .int .i64 k_], [] => (match FT.sames zq0 ft0 with | true => F71 fu [D.int q, D.int q1, D.row q2] k_ (fun o_ o_1 => K (.tuple [.agg (ofDs 0 ft1 o_), .int .i64 o_1]) []) | false => none)
  | _, _ => none

theorem e71 (R : Type) (K : UV → USt → Option R) (fu : Nat) (q : Int) (q1 : Int) (q2 : List (List D)) (k_ : Int) :
    F71 fu [D.int q, D.int q1, D.row q2] k_ (fun o_ o_1 => K (.tuple [.agg (ofDs 0 ft1 o_), .int .i64 o_1]) []) = ufun Try.prog ⟨(tb46 fu), pc71 fu⟩ 300 71 [.agg [.int .i64 q, .int .i64 q1, .fz ft0 q2 false], .int .i64 k_] [] (funK 0 [.fzP 0 [0, 2] ft0, .gc] K) := by kernel_rfl

theorem s71 (fu : Nat) : Tells Try.prog 71 (t71 fu) := by
  refine ufun_sound (T := ⟨(tb46 fu), pc71 fu⟩) (m := 0) (gout := [.fzP 0 [0, 2] ft0, .gc]) (k := 300) (tb46_sound fu) (fun fn body hf hb => ?_) (fun R args s K r h => ?_) (fun R args s K r h => ?_)
  · have hc : body = code71 := by
      have h1 : Try.prog.funcs[71]? = some Try.f71 := rfl
      rw [h1] at hf; cases hf
      have h2 : Try.f71.body = some code71 := rfl
      rw [h2] at hb; cases hb; rfl
    subst hc
    exact SoundPc.none _ _ _
  · unfold t71 at h; split at h
    · rfl
    · cases h
  · unfold t71 at h; split at h
    case h_2 => cases h
    split at h
    case h_2 => cases h
    rename_i hq
    have hq := FT.sames_eq _ _ hq
    subst hq
    exact (e71 R K fu _ _ _ _).symm.trans h

noncomputable def tb71 (fu : Nat) : FuncId → Option (Bool × ToldF) := fun f => match Nat.beq f 71 with
  | true => some (false, ghG [.fzP 0 [2] ft0] (t71 fu))
  | false => (tb46 fu) f
theorem tb71_sound (fu : Nat) : SoundF' Try.prog (tb71 fu) := by
  intro f own told h
  unfold tb71 at h
  split at h
  · rename_i hb
    cases h
    have := Nat.eq_of_beq_eq_true hb
    subst this
    exact ghG_sound (s71 fu)
  · exact (tb46_sound fu) f own told h

end Go.Proofs.Ytdoikghgblohjaa.V

/- Printed by ugen: (*daisychain/entry.Log).Merge -/
namespace Go.Proofs.Ytdoikghgblohjaa.V
set_option maxRecDepth 100000
set_option maxHeartbeats 4000000


noncomputable def code58 : Code := match Try.f58.body with | some c => c | none => .skip
theorem a58_250 : codeAt code58 250 = some (.loop (loopBody (codeAt code58 250))) := by kernel_rfl
noncomputable def F58_250 {R : Type} (fu : Nat) (at_ : Int) (x : List (List D)) (x1 : Int) (l : Int) (l1 : Int) : Nat → Int → (List (List D)) → ((List (List D)) → Option R) → Option R
  | 0, _, _, _ => none
  | n + 1, x2, l2, k0 => bif decide (x2 < x1) then bif within x2 x.length then F43 fu (IntKind.i64.wrap (IntKind.i64.wrap (at_ + 1) + x2)) l l1 l2 fun o_0 o_1 => bif o_1 then bif decide (o_0 = (cell 0 (elem x2.toNat x)).toInt) then (F58_250 fu at_ x x1 l l1 n (IntKind.i64.wrap (x2 + 1)) l2 k0) else bif decide ((0 : Int) ≤ 0 ∧ 0 ≤ if ofN l2.length < IntKind.i64.wrap (IntKind.i64.wrap (IntKind.i64.wrap (IntKind.i64.wrap (at_ + 1) + x2) - l) - 1) then ofN l2.length else IntKind.i64.wrap (IntKind.i64.wrap (IntKind.i64.wrap (IntKind.i64.wrap (at_ + 1) + x2) - l) - 1)) && upTo (if ofN l2.length < IntKind.i64.wrap (IntKind.i64.wrap (IntKind.i64.wrap (IntKind.i64.wrap (at_ + 1) + x2) - l) - 1) then ofN l2.length else IntKind.i64.wrap (IntKind.i64.wrap (IntKind.i64.wrap (IntKind.i64.wrap (at_ + 1) + x2) - l) - 1)) l2.length then F53 fu [D.int (cell 0 (elem x2.toNat x)).toInt, D.str (cell 1 (elem x2.toNat x)).toStr] l l1 (part l2 0 (if ofN l2.length < IntKind.i64.wrap (IntKind.i64.wrap (IntKind.i64.wrap (IntKind.i64.wrap (at_ + 1) + x2) - l) - 1) then ofN l2.length else IntKind.i64.wrap (IntKind.i64.wrap (IntKind.i64.wrap (IntKind.i64.wrap (at_ + 1) + x2) - l) - 1)).toNat) fun o_2 o_3 => (F58_250 fu at_ x x1 l l1 n (IntKind.i64.wrap (x2 + 1)) o_3 k0) else none else bif decide ((0 : Int) ≤ 0 ∧ 0 ≤ if ofN l2.length < IntKind.i64.wrap (IntKind.i64.wrap (IntKind.i64.wrap (IntKind.i64.wrap (at_ + 1) + x2) - l) - 1) then ofN l2.length else IntKind.i64.wrap (IntKind.i64.wrap (IntKind.i64.wrap (IntKind.i64.wrap (at_ + 1) + x2) - l) - 1)) && upTo (if ofN l2.length < IntKind.i64.wrap (IntKind.i64.wrap (IntKind.i64.wrap (IntKind.i64.wrap (at_ + 1) + x2) - l) - 1) then ofN l2.length else IntKind.i64.wrap (IntKind.i64.wrap (IntKind.i64.wrap (IntKind.i64.wrap (at_ + 1) + x2) - l) - 1)) l2.length then F53 fu [D.int (cell 0 (elem x2.toNat x)).toInt, D.str (cell 1 (elem x2.toNat x)).toStr] l l1 (part l2 0 (if ofN l2.length < IntKind.i64.wrap (IntKind.i64.wrap (IntKind.i64.wrap (IntKind.i64.wrap (at_ + 1) + x2) - l) - 1) then ofN l2.length else IntKind.i64.wrap (IntKind.i64.wrap (IntKind.i64.wrap (IntKind.i64.wrap (at_ + 1) + x2) - l) - 1)).toNat) fun o_4 o_5 => (F58_250 fu at_ x x1 l l1 n (IntKind.i64.wrap (x2 + 1)) o_5 k0) else none else none else (k0 l2)

noncomputable def t58_250 (fu n : Nat) : ToldP := fun _ e s K => match e, s with
  | [.ptr 0 0, .int .i64 at_, .fz zq0 more false, .fz zq1 x false, .int .i64 x1, .int .i64 x2], [.obj [.int .i64 l, .int .i64 l1, .fz zq2 l2 false]] => (match FT.sames zq0 ft0 with | true => (match FT.sames zq1 ft0 with | true => (match FT.sames zq2 ft0 with | true => F58_250 fu at_ x x1 l l1 n x2 l2 (fun o_ => K (.exit 0) (unpackM (bitsM 10 0xa) [.int .i64 (at_), .fz ft0 (more) false]) [.obj [.int .i64 (l), .int .i64 (l1), .fz ft0 o_ false]]) | false => none) | false => none) | false => none)
  | _, _ => none

noncomputable def pc58_250 (fu : Nat) : Nat → Option ToldP := fun _ => none
theorem e58_250 (fu n : Nat) (R : Type) (K : VExit → UEnv → USt → Option R) (at_ : Int) (more : List (List D)) (x : List (List D)) (x1 : Int) (x2 : Int) (l : Int) (l1 : Int) (l2 : List (List D)) :
    F58_250 fu at_ x x1 l l1 (n + 1) x2 l2 (fun o_ => K (.exit 0) (unpackM (bitsM 10 0xa) [.int .i64 (at_), .fz ft0 (more) false]) [.obj [.int .i64 (l), .int .i64 (l1), .fz ft0 o_ false]]) = uexec Try.prog (tb71 fu) 300 (pc58_250 fu) 500 (loopBody (codeAt code58 250)) (unpackM (bitsM 74 0x380000000000000000b) [.ptr 0 0, .int .i64 at_, .fz ft0 more false, .fz ft0 x false, .int .i64 x1, .int .i64 x2]) [.obj [.int .i64 l, .int .i64 l1, .fz ft0 l2 false]] (loopK 1 [.live (bitsM 74 0x380000000000000000b), .fzP 3 [] ft0, .fzP 71 [] ft0, .gc] [.live (bitsM 10 0x30a), .gc] (pkP (bitsM 74 0x380000000000000000b) (t58_250 fu n)) K) := by kernel_rfl

theorem p58_250 (fu : Nat) : SoundPc Try.prog 1 code58 (pc58_250 fu) := SoundPc.none _ _ _
theorem s58_250 (fu : Nat) : ∀ n, SoundP Try.prog 1 (.loop (loopBody (codeAt code58 250))) (pkP (bitsM 74 0x380000000000000000b) (t58_250 fu n)) := by
  refine loopP_sound (gin := [.live (bitsM 74 0x380000000000000000b), .fzP 3 [] ft0, .fzP 71 [] ft0, .gc]) (gout := [.live (bitsM 10 0x30a), .gc]) (k := 300) (tb71_sound fu) (p58_250 fu) (by decide) a58_250 (fun R e s K => ?_) (fun n R e s K r h => ?_)
  · unfold t58_250; repeat' split
    all_goals rfl
  · unfold t58_250 at h; split at h
    case h_2 => cases h
    split at h
    case h_2 => cases h
    rename_i hq
    have hq := FT.sames_eq _ _ hq
    subst hq
    split at h
    case h_2 => cases h
    rename_i hq
    have hq := FT.sames_eq _ _ hq
    subst hq
    split at h
    case h_2 => cases h
    rename_i hq
    have hq := FT.sames_eq _ _ hq
    subst hq
    exact (e58_250 fu n R K _ _ _ _ _ _ _ _).symm.trans h


noncomputable def F58 {R : Type} (fu : Nat) : Nat → Int → Int → (List (List D)) → Int → Int → (List (List D)) → (Int → Bool → (List (List D)) → Option R) → Option R
  | 0, _, _, _, _, _, _, _ => none
  | n + 1, at_, term, more, l_base, l_term, l_l, k0 => bif decide (at_ < 0) then (k0 0 false l_l) else bif decide (at_ < l_base) then bif decide (ofN more.length ≤ IntKind.i64.wrap (l_base - at_)) then (k0 (IntKind.i64.wrap (at_ + ofN more.length)) true l_l) else bif decide (0 ≤ IntKind.i64.wrap (l_base - at_) ∧ IntKind.i64.wrap (l_base - at_) ≤ ofN more.length) && upTo (ofN more.length) more.length then F58 fu n l_base l_term (part more (IntKind.i64.wrap (l_base - at_)).toNat (ofN more.length).toNat) l_base l_term l_l fun o_0 o_1 o_2 => (k0 o_0 o_1 o_2) else none else F43 fu at_ l_base l_term l_l fun o_3 o_4 => bif !o_4 then (k0 0 false l_l) else bif !decide (o_3 = term) then (k0 0 false l_l) else F58_250 fu at_ more (ofN more.length) l_base l_term fu 0 l_l fun o_5 => (k0 (IntKind.i64.wrap (at_ + ofN more.length)) true o_5)

noncomputable def pc58 (fu : Nat) : Nat → Option ToldP := fun p => match Nat.beq p 250 with | true => some (ghP 1 [.live (bitsM 74 0x380000000000000000b), .fzP 3 [] ft0, .fzP 71 [] ft0, .gc] (pkP (bitsM 74 0x380000000000000000b) (t58_250 fu fu))) | false => none
noncomputable def t58 (fu n : Nat) : ToldF := fun _ args s K => match args, s with
  | [.ptr 0 0, .int .i64 at_, .int .i64 term, .fz zq0 more false], [.obj [.int .i64 l_base, .int .i64 l_term, .fz zq1 l_l false]] => (match FT.sames zq0 ft0 with | true => (match FT.sames zq1 ft0 with | true => F58 fu n at_ term more l_base l_term l_l (fun o_ o_1 o_2 => K (.tuple [.int .i64 o_, .bool o_1]) [.obj [.int .i64 (l_base), .int .i64 (l_term), .fz ft0 o_2 false]]) | false => none) | false => none)
  | _, _ => none

noncomputable def tbs58 (fu n : Nat) : FuncId → Option (Bool × ToldF) := fun f => match Nat.beq f 58 with
  | true => some (false, ghG [.fzP 3 [] ft0, .gc, .fzC 0 2 ft0, .gc] (t58 fu n))
  | false => (tb71 fu) f
theorem tbs58_sound (fu n : Nat) (ih : Tells Try.prog 58 (t58 fu n)) : SoundF' Try.prog (tbs58 fu n) := by
  intro f own told h
  unfold tbs58 at h
  split at h
  · rename_i hb
    cases h
    have := Nat.eq_of_beq_eq_true hb
    subst this
    exact ghG_sound ih
  · exact (tb71_sound fu) f own told h
theorem e58 (R : Type) (K : UV → USt → Option R) (fu n : Nat) (at_ : Int) (term : Int) (more : List (List D)) (l_base : Int) (l_term : Int) (l_l : List (List D)) :
    F58 fu (n + 1) at_ term more l_base l_term l_l (fun o_ o_1 o_2 => K (.tuple [.int .i64 o_, .bool o_1]) [.obj [.int .i64 (l_base), .int .i64 (l_term), .fz ft0 o_2 false]]) = ufun Try.prog ⟨(tbs58 fu n), pc58 fu⟩ 300 58 [.ptr 0 0, .int .i64 at_, .int .i64 term, .fz ft0 more false] [.obj [.int .i64 l_base, .int .i64 l_term, .fz ft0 l_l false]] (funK 1 [.gc, .fzC 0 2 ft0, .gc] K) := by kernel_rfl

theorem s58 (fu : Nat) : ∀ n, Tells Try.prog 58 (t58 fu n) := by
  intro n
  induction n with
  | zero =>
    intro R args s K r h
    unfold t58 at h
    repeat' split at h
    all_goals first | cases h | (unfold F58 at h; cases h)
  | succ n ih =>
    refine ufun_sound (T := ⟨(tbs58 fu n), pc58 fu⟩) (m := 1) (gout := [.gc, .fzC 0 2 ft0, .gc]) (k := 300) (tbs58_sound fu n ih) (fun fn body hf hb => ?_) (fun R args s K r h => ?_) (fun R args s K r h => ?_)
    · have hc : body = code58 := by
        have h1 : Try.prog.funcs[58]? = some Try.f58 := rfl
        rw [h1] at hf; cases hf
        have h2 : Try.f58.body = some code58 := rfl
        rw [h2] at hb; cases hb; rfl
      subst hc
      exact fun p told h b hb => by
        replace h : pc58 fu p = some told := h
        unfold pc58 at h
        split at h
        · rename_i hp
          cases h
          have := Nat.eq_of_beq_eq_true hp
          subst this
          rw [a58_250] at hb
          cases hb
          exact ghP_sound (s58_250 fu _)
        ·
          cases h

    · unfold t58 at h; split at h
      · rfl
      · cases h
    · unfold t58 at h; split at h
      case h_2 => cases h
      split at h
      case h_2 => cases h
      rename_i hq
      have hq := FT.sames_eq _ _ hq
      subst hq
      split at h
      case h_2 => cases h
      rename_i hq
      have hq := FT.sames_eq _ _ hq
      subst hq
      exact (e58 R K fu n _ _ _ _ _ _).symm.trans h

noncomputable def tb58 (fu : Nat) : FuncId → Option (Bool × ToldF) := fun f => match Nat.beq f 58 with
  | true => some (false, ghG [.fzP 3 [] ft0, .gc, .fzC 0 2 ft0, .gc] (t58 fu fu))
  | false => (tb71 fu) f
theorem tb58_sound (fu : Nat) : SoundF' Try.prog (tb58 fu) := by
  intro f own told h
  unfold tb58 at h
  split at h
  · rename_i hb
    cases h
    have := Nat.eq_of_beq_eq_true hb
    subst this
    exact ghG_sound (s58 fu fu)
  · exact (tb71_sound fu) f own told h

end Go.Proofs.Ytdoikghgblohjaa.V

/- Printed by ugen: daisychain/daisychainref11.Merge -/
namespace Go.Proofs.Ytdoikghgblohjaa.V
set_option maxRecDepth 100000
set_option maxHeartbeats 4000000


noncomputable def code70 : Code := match Try.f70.body with | some c => c | none => .skip
theorem a70_1018 : codeAt code70 1018 = some (.loop (loopBody (codeAt code70 1018))) := by kernel_rfl
noncomputable def F70_1018 {R : Type} (fu : Nat) (at_ : Int) (more : List (List D)) (l : Int) : Nat → Int → (List (List D)) → ((List (List D)) → Option R) → Option R
  | 0, _, _, _ => none
  | n + 1, k_, out, k0 => bif decide (k_ < ofN more.length) then bif decide (IntKind.i64.wrap (IntKind.i64.wrap (at_ - l) + k_) < ofN out.length) then bif within (IntKind.i64.wrap (IntKind.i64.wrap (at_ - l) + k_)) out.length then bif within k_ more.length then bif decide ((cell 0 (elem (IntKind.i64.wrap (IntKind.i64.wrap (at_ - l) + k_)).toNat out)).toInt = (cell 0 (elem k_.toNat more)).toInt) then (F70_1018 fu at_ more l n (IntKind.i64.wrap (k_ + 1)) out k0) else bif decide (IntKind.i64.wrap (IntKind.i64.wrap (at_ - l) + k_) < ofN out.length) then bif decide ((0 : Int) ≤ 0 ∧ 0 ≤ IntKind.i64.wrap (IntKind.i64.wrap (at_ - l) + k_)) && upTo (IntKind.i64.wrap (IntKind.i64.wrap (at_ - l) + k_)) out.length then bif fits (0 + (part out 0 (IntKind.i64.wrap (IntKind.i64.wrap (at_ - l) + k_)).toNat).length) 24 then bif within k_ more.length then bif fits ((part out 0 (IntKind.i64.wrap (IntKind.i64.wrap (at_ - l) + k_)).toNat).length + 1) 24 then (F70_1018 fu at_ more l n (IntKind.i64.wrap (k_ + 1)) (part out 0 (IntKind.i64.wrap (IntKind.i64.wrap (at_ - l) + k_)).toNat ++ [[D.int (cell 0 (elem k_.toNat more)).toInt, D.str (cell 1 (elem k_.toNat more)).toStr]]) k0) else none else none else none else none else bif within k_ more.length then bif fits (out.length + 1) 24 then (F70_1018 fu at_ more l n (IntKind.i64.wrap (k_ + 1)) (out ++ [[D.int (cell 0 (elem k_.toNat more)).toInt, D.str (cell 1 (elem k_.toNat more)).toStr]]) k0) else none else none else none else none else bif decide (IntKind.i64.wrap (IntKind.i64.wrap (at_ - l) + k_) < ofN out.length) then bif decide ((0 : Int) ≤ 0 ∧ 0 ≤ IntKind.i64.wrap (IntKind.i64.wrap (at_ - l) + k_)) && upTo (IntKind.i64.wrap (IntKind.i64.wrap (at_ - l) + k_)) out.length then bif fits (0 + (part out 0 (IntKind.i64.wrap (IntKind.i64.wrap (at_ - l) + k_)).toNat).length) 24 then bif within k_ more.length then bif fits ((part out 0 (IntKind.i64.wrap (IntKind.i64.wrap (at_ - l) + k_)).toNat).length + 1) 24 then (F70_1018 fu at_ more l n (IntKind.i64.wrap (k_ + 1)) (part out 0 (IntKind.i64.wrap (IntKind.i64.wrap (at_ - l) + k_)).toNat ++ [[D.int (cell 0 (elem k_.toNat more)).toInt, D.str (cell 1 (elem k_.toNat more)).toStr]]) k0) else none else none else none else none else bif within k_ more.length then bif fits (out.length + 1) 24 then (F70_1018 fu at_ more l n (IntKind.i64.wrap (k_ + 1)) (out ++ [[D.int (cell 0 (elem k_.toNat more)).toInt, D.str (cell 1 (elem k_.toNat more)).toStr]]) k0) else none else none else (k0 out)

noncomputable def t70_1018 (fu n : Nat) : ToldP := fun _ e s K => match e, s with
  | [.int .i64 at_, .fz zq0 more false, .ptr 0 0, .ptr 1 0, .int .i64 end_, .own 2, .int .i64 k_], [.obj [.int .i64 l, .int .i64 l1, .fz zq1 l2 false], .obj [.int .i64 x, .int .i64 x1, .nilslice], .row zq2 out] => (match FT.sames zq0 ft0 with | true => (match FT.sames zq1 ft0 with | true => (match FT.sames zq2 ft0 with | true => F70_1018 fu at_ more l n k_ out (fun o_ => K (.exit 0) (unpackM (bitsM 16 0x8910) [.ptr 0 0, .ptr 1 0, .int .i64 (end_), .own 2]) [.obj [.int .i64 (l), .int .i64 (l1), .fz ft0 (l2) false], .obj [.int .i64 (x), .int .i64 (x1), .nilslice], .row ft0 o_]) | false => none) | false => none) | false => none)
  | _, _ => none

noncomputable def pc70_1018 (fu : Nat) : Nat → Option ToldP := fun _ => none
theorem e70_1018 (fu n : Nat) (R : Type) (K : VExit → UEnv → USt → Option R) (at_ : Int) (more : List (List D)) (end_ : Int) (k_ : Int) (l : Int) (l1 : Int) (l2 : List (List D)) (x : Int) (x1 : Int) (out : List (List D)) :
    F70_1018 fu at_ more l (n + 1) k_ out (fun o_ => K (.exit 0) (unpackM (bitsM 16 0x8910) [.ptr 0 0, .ptr 1 0, .int .i64 (end_), .own 2]) [.obj [.int .i64 (l), .int .i64 (l1), .fz ft0 (l2) false], .obj [.int .i64 (x), .int .i64 (x1), .nilslice], .row ft0 o_]) = uexec Try.prog (tb58 fu) 300 (pc70_1018 fu) 2036 (loopBody (codeAt code70 1018)) (unpackM (bitsM 17 0x1891a) [.int .i64 at_, .fz ft0 more false, .ptr 0 0, .ptr 1 0, .int .i64 end_, .own 2, .int .i64 k_]) [.obj [.int .i64 l, .int .i64 l1, .fz ft0 l2 false], .obj [.int .i64 x, .int .i64 x1, .nilslice], .row ft0 out] (loopK 0 [.live (bitsM 17 0x1891a), .fzP 3 [] ft0, .ownP 15 [] ft0, .gc, .fzC 0 2 ft0, .gc] [.live (bitsM 16 0x8f10), .gc] (pkP (bitsM 17 0x1891a) (t70_1018 fu n)) K) := by kernel_rfl

theorem p70_1018 (fu : Nat) : SoundPc Try.prog 0 code70 (pc70_1018 fu) := SoundPc.none _ _ _
theorem s70_1018 (fu : Nat) : ∀ n, SoundP Try.prog 0 (.loop (loopBody (codeAt code70 1018))) (pkP (bitsM 17 0x1891a) (t70_1018 fu n)) := by
  refine loopP_sound (gin := [.live (bitsM 17 0x1891a), .fzP 3 [] ft0, .ownP 15 [] ft0, .gc, .fzC 0 2 ft0, .gc]) (gout := [.live (bitsM 16 0x8f10), .gc]) (k := 300) (tb58_sound fu) (p70_1018 fu) (by decide) a70_1018 (fun R e s K => ?_) (fun n R e s K r h => ?_)
  · unfold t70_1018; repeat' split
    all_goals rfl
  · unfold t70_1018 at h; split at h
    case h_2 => cases h
    split at h
    case h_2 => cases h
    rename_i hq
    have hq := FT.sames_eq _ _ hq
    subst hq
    split at h
    case h_2 => cases h
    rename_i hq
    have hq := FT.sames_eq _ _ hq
    subst hq
    split at h
    case h_2 => cases h
    rename_i hq
    have hq := FT.sames_eq _ _ hq
    subst hq
    exact (e70_1018 fu n R K _ _ _ _ _ _ _ _ _ _).symm.trans h


noncomputable def F70 {R : Type} (fu : Nat) (l : List D) (at_ : Int) (term : Int) (more : List (List D)) (k0 : (List D) → Int → Bool → Option R) : Option R :=
  bif decide (at_ < (cell 0 l).toInt) then bif decide (ofN more.length ≤ IntKind.i64.wrap ((cell 0 l).toInt - at_)) then (k0 l (IntKind.i64.wrap (at_ + ofN more.length)) true) else bif decide (0 ≤ IntKind.i64.wrap ((cell 0 l).toInt - at_) ∧ IntKind.i64.wrap ((cell 0 l).toInt - at_) ≤ ofN more.length) && upTo (ofN more.length) more.length then F74 fu [D.int (cell 0 l).toInt, D.int (cell 1 l).toInt, D.row (cell 2 l).toRows] (cell 0 l).toInt fun o_0 o_1 => bif !o_1 then (k0 l 0 false) else bif !decide (o_0 = (cell 1 l).toInt) then (k0 l 0 false) else bif fits (0 + (cell 2 l).toRows.length) 24 then F70_1018 fu (cell 0 l).toInt (part more (IntKind.i64.wrap ((cell 0 l).toInt - at_)).toNat (ofN more.length).toNat) (cell 0 l).toInt fu 0 (cell 2 l).toRows fun o_2 => (k0 [D.int ((cell 0 l).toInt), D.int ((cell 1 l).toInt), D.row o_2] (IntKind.i64.wrap (at_ + ofN more.length)) true) else none else none else F74 fu [D.int (cell 0 l).toInt, D.int (cell 1 l).toInt, D.row (cell 2 l).toRows] at_ fun o_3 o_4 => bif !o_4 then (k0 l 0 false) else bif !decide (o_3 = term) then (k0 l 0 false) else bif fits (0 + (cell 2 l).toRows.length) 24 then F70_1018 fu at_ more (cell 0 l).toInt fu 0 (cell 2 l).toRows fun o_5 => (k0 [D.int ((cell 0 l).toInt), D.int ((cell 1 l).toInt), D.row o_5] (IntKind.i64.wrap (at_ + ofN more.length)) true) else none

noncomputable def pc70 (fu : Nat) : Nat → Option ToldP := fun p => match Nat.beq p 1018 with | true => some (ghP 0 [.live (bitsM 17 0x1891a), .fzP 3 [] ft0, .ownP 15 [] ft0, .gc, .fzC 0 2 ft0, .gc] (pkP (bitsM 17 0x1891a) (t70_1018 fu fu))) | false => none
noncomputable def t70 (fu : Nat) : ToldF := fun _ args s K => match args, s with
  | [.agg [.int .i64 q, .int .i64 q1, .fz zq0 q2 false], .int .i64 at_, .int .i64 term, .fz zq1 more false], [] => (match FT.sames zq0 ft0 with | true => (match FT.sames zq1 ft0 with | true => F70 fu [D.int q, D.int q1, D.row q2] at_ term more (fun o_ o_1 o_2 => K (.tuple [.agg (ofDs 0 ft1 o_), .int .i64 o_1, .bool o_2]) []) | false => none) | false => none)
  | _, _ => none

theorem e70 (R : Type) (K : UV → USt → Option R) (fu : Nat) (q : Int) (q1 : Int) (q2 : List (List D)) (at_ : Int) (term : Int) (more : List (List D)) :
    F70 fu [D.int q, D.int q1, D.row q2] at_ term more (fun o_ o_1 o_2 => K (.tuple [.agg (ofDs 0 ft1 o_), .int .i64 o_1, .bool o_2]) []) = ufun Try.prog ⟨(tb58 fu), pc70 fu⟩ 300 70 [.agg [.int .i64 q, .int .i64 q1, .fz ft0 q2 false], .int .i64 at_, .int .i64 term, .fz ft0 more false] [] (funK 0 [.fzP 0 [0, 2] ft0, .gc] K) := by kernel_rfl

theorem s70 (fu : Nat) : Tells Try.prog 70 (t70 fu) := by
  refine ufun_sound (T := ⟨(tb58 fu), pc70 fu⟩) (m := 0) (gout := [.fzP 0 [0, 2] ft0, .gc]) (k := 300) (tb58_sound fu) (fun fn body hf hb => ?_) (fun R args s K r h => ?_) (fun R args s K r h => ?_)
  · have hc : body = code70 := by
      have h1 : Try.prog.funcs[70]? = some Try.f70 := rfl
      rw [h1] at hf; cases hf
      have h2 : Try.f70.body = some code70 := rfl
      rw [h2] at hb; cases hb; rfl
    subst hc
    exact fun p told h b hb => by
      replace h : pc70 fu p = some told := h
      unfold pc70 at h
      split at h
      · rename_i hp
        cases h
        have := Nat.eq_of_beq_eq_true hp
        subst this
        rw [a70_1018] at hb
        cases hb
        exact ghP_sound (s70_1018 fu _)
      ·
        cases h

  · unfold t70 at h; split at h
    · rfl
    · cases h
  · unfold t70 at h; split at h
    case h_2 => cases h
    split at h
    case h_2 => cases h
    rename_i hq
    have hq := FT.sames_eq _ _ hq
    subst hq
    split at h
    case h_2 => cases h
    rename_i hq
    have hq := FT.sames_eq _ _ hq
    subst hq
    exact (e70 R K fu _ _ _ _ _ _).symm.trans h

noncomputable def tb70 (fu : Nat) : FuncId → Option (Bool × ToldF) := fun f => match Nat.beq f 70 with
  | true => some (false, ghG [.fzP 0 [2] ft0, .fzP 3 [] ft0] (t70 fu))
  | false => (tb58 fu) f
theorem tb70_sound (fu : Nat) : SoundF' Try.prog (tb70 fu) := by
  intro f own told h
  unfold tb70 at h
  split at h
  · rename_i hb
    cases h
    have := Nat.eq_of_beq_eq_true hb
    subst this
    exact ghG_sound (s70 fu)
  · exact (tb58_sound fu) f own told h

end Go.Proofs.Ytdoikghgblohjaa.V

/- Printed by ugen: daisychain/daisychainlaw11.Of -/
namespace Go.Proofs.Ytdoikghgblohjaa.V
set_option maxRecDepth 100000
set_option maxHeartbeats 4000000


noncomputable def code59 : Code := match Try.f59.body with | some c => c | none => .skip
theorem a59_58 : codeAt code59 58 = some (.loop (loopBody (codeAt code59 58))) := by kernel_rfl
noncomputable def F59_58 {R : Type} (fu : Nat) (x : List (List D)) (x1 : Int) : Nat → Int → (List (List D)) → ((List (List D)) → Option R) → Option R
  | 0, _, _, _ => none
  | n + 1, x2, out, k0 => bif decide (x2 < x1) then bif within x2 x.length then bif fits (out.length + 1) 24 then (F59_58 fu x x1 n (IntKind.i64.wrap (x2 + 1)) (out ++ [[D.int (cell 0 (elem x2.toNat x)).toInt, D.str (cell 1 (elem x2.toNat x)).toStr]]) k0) else none else none else (k0 out)

noncomputable def t59_58 (fu n : Nat) : ToldP := fun _ e s K => match e, s with
  | [.own 0, .fz zq0 x false, .int .i64 x1, .int .i64 x2], [.row zq1 out] => (match FT.sames zq0 ft0 with | true => (match FT.sames zq1 ft0 with | true => F59_58 fu x x1 n x2 out (fun o_ => K (.exit 0) (unpackM (bitsM 4 0x8) [.own 0]) [.row ft0 o_]) | false => none) | false => none)
  | _, _ => none

noncomputable def pc59_58 (fu : Nat) : Nat → Option ToldP := fun _ => none
theorem e59_58 (fu n : Nat) (R : Type) (K : VExit → UEnv → USt → Option R) (x : List (List D)) (x1 : Int) (x2 : Int) (out : List (List D)) :
    F59_58 fu x x1 (n + 1) x2 out (fun o_ => K (.exit 0) (unpackM (bitsM 4 0x8) [.own 0]) [.row ft0 o_]) = uexec Try.prog (tb70 fu) 300 (pc59_58 fu) 116 (loopBody (codeAt code59 58)) (unpackM (bitsM 9 0x1c8) [.own 0, .fz ft0 x false, .int .i64 x1, .int .i64 x2]) [.row ft0 out] (loopK 0 [.live (bitsM 9 0x1c8), .ownP 3 [] ft0, .fzP 6 [] ft0, .gc] [.live (bitsM 4 0xc), .gc] (pkP (bitsM 9 0x1c8) (t59_58 fu n)) K) := by kernel_rfl

theorem p59_58 (fu : Nat) : SoundPc Try.prog 0 code59 (pc59_58 fu) := SoundPc.none _ _ _
theorem s59_58 (fu : Nat) : ∀ n, SoundP Try.prog 0 (.loop (loopBody (codeAt code59 58))) (pkP (bitsM 9 0x1c8) (t59_58 fu n)) := by
  refine loopP_sound (gin := [.live (bitsM 9 0x1c8), .ownP 3 [] ft0, .fzP 6 [] ft0, .gc]) (gout := [.live (bitsM 4 0xc), .gc]) (k := 300) (tb70_sound fu) (p59_58 fu) (by decide) a59_58 (fun R e s K => ?_) (fun n R e s K r h => ?_)
  · unfold t59_58; repeat' split
    all_goals rfl
  · unfold t59_58 at h; split at h
    case h_2 => cases h
    split at h
    case h_2 => cases h
    rename_i hq
    have hq := FT.sames_eq _ _ hq
    subst hq
    split at h
    case h_2 => cases h
    rename_i hq
    have hq := FT.sames_eq _ _ hq
    subst hq
    exact (e59_58 fu n R K _ _ _ _).symm.trans h


noncomputable def F59 {R : Type} (fu : Nat) (l : List (List D)) (k0 : (List (List D)) → Option R) : Option R :=
  F59_58 fu l (ofN l.length) fu 0 [] fun o_0 => (k0 o_0)

noncomputable def pc59 (fu : Nat) : Nat → Option ToldP := fun p => match Nat.beq p 58 with | true => some (ghP 0 [.live (bitsM 9 0x1c8), .ownP 3 [] ft0, .fzP 6 [] ft0, .gc] (pkP (bitsM 9 0x1c8) (t59_58 fu fu))) | false => none
noncomputable def t59 (fu : Nat) : ToldF := fun _ args s K => match args, s with
  | [.fz zq0 l false], [] => (match FT.sames zq0 ft0 with | true => F59 fu l (fun o_ => K (.own 0) [.row ft0 o_]) | false => none)
  | _, _ => none

theorem e59 (R : Type) (K : UV → USt → Option R) (fu : Nat) (l : List (List D)) :
    F59 fu l (fun o_ => K (.own 0) [.row ft0 o_]) = ufun Try.prog ⟨(tb70 fu), pc59 fu⟩ 300 59 [.fz ft0 l false] [] (funK 0 [.gc] K) := by kernel_rfl

theorem s59 (fu : Nat) : Tells Try.prog 59 (t59 fu) := by
  refine ufun_sound (T := ⟨(tb70 fu), pc59 fu⟩) (m := 0) (gout := [.gc]) (k := 300) (tb70_sound fu) (fun fn body hf hb => ?_) (fun R args s K r h => ?_) (fun R args s K r h => ?_)
  · have hc : body = code59 := by
      have h1 : Try.prog.funcs[59]? = some Try.f59 := rfl
      rw [h1] at hf; cases hf
      have h2 : Try.f59.body = some code59 := rfl
      rw [h2] at hb; cases hb; rfl
    subst hc
    exact fun p told h b hb => by
      replace h : pc59 fu p = some told := h
      unfold pc59 at h
      split at h
      · rename_i hp
        cases h
        have := Nat.eq_of_beq_eq_true hp
        subst this
        rw [a59_58] at hb
        cases hb
        exact ghP_sound (s59_58 fu _)
      ·
        cases h

  · unfold t59 at h; split at h
    · rfl
    · cases h
  · unfold t59 at h; split at h
    case h_2 => cases h
    split at h
    case h_2 => cases h
    rename_i hq
    have hq := FT.sames_eq _ _ hq
    subst hq
    exact (e59 R K fu _).symm.trans h

noncomputable def tb59 (fu : Nat) : FuncId → Option (Bool × ToldF) := fun f => match Nat.beq f 59 with
  | true => some (false, ghG [.fzP 0 [] ft0] (t59 fu))
  | false => (tb70 fu) f
theorem tb59_sound (fu : Nat) : SoundF' Try.prog (tb59 fu) := by
  intro f own told h
  unfold tb59 at h
  split at h
  · rename_i hb
    cases h
    have := Nat.eq_of_beq_eq_true hb
    subst this
    exact ghG_sound (s59 fu)
  · exact (tb70_sound fu) f own told h

end Go.Proofs.Ytdoikghgblohjaa.V

/- Printed by ugen: (*daisychain/entry.Log).From -/
namespace Go.Proofs.Ytdoikghgblohjaa.V
set_option maxRecDepth 100000
set_option maxHeartbeats 4000000


noncomputable def code60 : Code := match Try.f60.body with | some c => c | none => .skip

noncomputable def F60 {R : Type} (fu : Nat) (k_ : Int) (most : Int) (l_base : Int) (l_term : Int) (l_l : List (List D)) (k0 : (List (List D)) → Option R) : Option R :=
  F44 fu l_base l_term l_l fun o_0 => bif decide (o_0 < k_) then (k0 []) else bif decide (most < 1) then (k0 []) else bif decide ((0 ≤ if 0 > IntKind.i64.wrap (IntKind.i64.wrap (k_ - l_base) - 1) then 0 else IntKind.i64.wrap (IntKind.i64.wrap (k_ - l_base) - 1)) ∧ (if 0 > IntKind.i64.wrap (IntKind.i64.wrap (k_ - l_base) - 1) then 0 else IntKind.i64.wrap (IntKind.i64.wrap (k_ - l_base) - 1)) ≤ ofN l_l.length) && upTo (ofN l_l.length) l_l.length then bif decide (k_ ≤ l_base) then bif decide ((0 : Int) ≤ 0 ∧ 0 ≤ if ofN l_l.length < most then ofN l_l.length else most) && upTo (if ofN l_l.length < most then ofN l_l.length else most) l_l.length then bif fits (part l_l 0 (if ofN l_l.length < most then ofN l_l.length else most).toNat).length 24 then (k0 (part l_l 0 (if ofN l_l.length < most then ofN l_l.length else most).toNat)) else none else none else bif decide ((0 : Int) ≤ 0 ∧ 0 ≤ if ofN (part l_l (if 0 > IntKind.i64.wrap (IntKind.i64.wrap (k_ - l_base) - 1) then 0 else IntKind.i64.wrap (IntKind.i64.wrap (k_ - l_base) - 1)).toNat (ofN l_l.length).toNat).length < most then ofN (part l_l (if 0 > IntKind.i64.wrap (IntKind.i64.wrap (k_ - l_base) - 1) then 0 else IntKind.i64.wrap (IntKind.i64.wrap (k_ - l_base) - 1)).toNat (ofN l_l.length).toNat).length else most) && upTo (if ofN (part l_l (if 0 > IntKind.i64.wrap (IntKind.i64.wrap (k_ - l_base) - 1) then 0 else IntKind.i64.wrap (IntKind.i64.wrap (k_ - l_base) - 1)).toNat (ofN l_l.length).toNat).length < most then ofN (part l_l (if 0 > IntKind.i64.wrap (IntKind.i64.wrap (k_ - l_base) - 1) then 0 else IntKind.i64.wrap (IntKind.i64.wrap (k_ - l_base) - 1)).toNat (ofN l_l.length).toNat).length else most) (part l_l (if 0 > IntKind.i64.wrap (IntKind.i64.wrap (k_ - l_base) - 1) then 0 else IntKind.i64.wrap (IntKind.i64.wrap (k_ - l_base) - 1)).toNat (ofN l_l.length).toNat).length then bif fits (part (part l_l (if 0 > IntKind.i64.wrap (IntKind.i64.wrap (k_ - l_base) - 1) then 0 else IntKind.i64.wrap (IntKind.i64.wrap (k_ - l_base) - 1)).toNat (ofN l_l.length).toNat) 0 (if ofN (part l_l (if 0 > IntKind.i64.wrap (IntKind.i64.wrap (k_ - l_base) - 1) then 0 else IntKind.i64.wrap (IntKind.i64.wrap (k_ - l_base) - 1)).toNat (ofN l_l.length).toNat).length < most then ofN (part l_l (if 0 > IntKind.i64.wrap (IntKind.i64.wrap (k_ - l_base) - 1) then 0 else IntKind.i64.wrap (IntKind.i64.wrap (k_ - l_base) - 1)).toNat (ofN l_l.length).toNat).length else most).toNat).length 24 then (k0 (part (part l_l (if 0 > IntKind.i64.wrap (IntKind.i64.wrap (k_ - l_base) - 1) then 0 else IntKind.i64.wrap (IntKind.i64.wrap (k_ - l_base) - 1)).toNat (ofN l_l.length).toNat) 0 (if ofN (part l_l (if 0 > IntKind.i64.wrap (IntKind.i64.wrap (k_ - l_base) - 1) then 0 else IntKind.i64.wrap (IntKind.i64.wrap (k_ - l_base) - 1)).toNat (ofN l_l.length).toNat).length < most then ofN (part l_l (if 0 > IntKind.i64.wrap (IntKind.i64.wrap (k_ - l_base) - 1) then 0 else IntKind.i64.wrap (IntKind.i64.wrap (k_ - l_base) - 1)).toNat (ofN l_l.length).toNat).length else most).toNat)) else none else none else none

noncomputable def pc60 (fu : Nat) : Nat → Option ToldP := fun _ => none
noncomputable def t60 (fu : Nat) : ToldF := fun _ args s K => match args, s with
  | [.ptr 0 0, .int .i64 k_, .int .i64 most], [.obj [.int .i64 l_base, .int .i64 l_term, .fz zq0 l_l false]] => (match FT.sames zq0 ft0 with | true => F60 fu k_ most l_base l_term l_l (fun o_ => K (.own 1) [.obj [.int .i64 (l_base), .int .i64 (l_term), .fz ft0 (l_l) false], .row ft0 o_]) | false => none)
  | _, _ => none

theorem e60 (R : Type) (K : UV → USt → Option R) (fu : Nat) (k_ : Int) (most : Int) (l_base : Int) (l_term : Int) (l_l : List (List D)) :
    F60 fu k_ most l_base l_term l_l (fun o_ => K (.own 1) [.obj [.int .i64 (l_base), .int .i64 (l_term), .fz ft0 (l_l) false], .row ft0 o_]) = ufun Try.prog ⟨(tb59 fu), pc60 fu⟩ 300 60 [.ptr 0 0, .int .i64 k_, .int .i64 most] [.obj [.int .i64 l_base, .int .i64 l_term, .fz ft0 l_l false]] (funK 1 [.ownP 0 [] ft0, .gc, .fzC 0 2 ft0, .gc] K) := by kernel_rfl

theorem s60 (fu : Nat) : Tells Try.prog 60 (t60 fu) := by
  refine ufun_sound (T := ⟨(tb59 fu), pc60 fu⟩) (m := 1) (gout := [.ownP 0 [] ft0, .gc, .fzC 0 2 ft0, .gc]) (k := 300) (tb59_sound fu) (fun fn body hf hb => ?_) (fun R args s K r h => ?_) (fun R args s K r h => ?_)
  · have hc : body = code60 := by
      have h1 : Try.prog.funcs[60]? = some Try.f60 := rfl
      rw [h1] at hf; cases hf
      have h2 : Try.f60.body = some code60 := rfl
      rw [h2] at hb; cases hb; rfl
    subst hc
    exact SoundPc.none _ _ _
  · unfold t60 at h; split at h
    · rfl
    · cases h
  · unfold t60 at h; split at h
    case h_2 => cases h
    split at h
    case h_2 => cases h
    rename_i hq
    have hq := FT.sames_eq _ _ hq
    subst hq
    exact (e60 R K fu _ _ _ _ _).symm.trans h

noncomputable def tb60 (fu : Nat) : FuncId → Option (Bool × ToldF) := fun f => match Nat.beq f 60 with
  | true => some (false, ghG [.gc, .fzC 0 2 ft0, .gc] (t60 fu))
  | false => (tb59 fu) f
theorem tb60_sound (fu : Nat) : SoundF' Try.prog (tb60 fu) := by
  intro f own told h
  unfold tb60 at h
  split at h
  · rename_i hb
    cases h
    have := Nat.eq_of_beq_eq_true hb
    subst this
    exact ghG_sound (s60 fu)
  · exact (tb59_sound fu) f own told h

end Go.Proofs.Ytdoikghgblohjaa.V

/- Printed by ugen: daisychain/daisychainlaw11.Same -/
namespace Go.Proofs.Ytdoikghgblohjaa.V
set_option maxRecDepth 100000
set_option maxHeartbeats 4000000


noncomputable def code61 : Code := match Try.f61.body with | some c => c | none => .skip
theorem a61_58 : codeAt code61 58 = some (.loop (loopBody (codeAt code61 58))) := by kernel_rfl
noncomputable def F61_58 {R : Type} (fu : Nat) (l : Int) (l1 : Int) (l2 : List (List D)) (r : Int) (r1 : Int) (r2 : List (List D)) : Nat → Int → (Option R) → (Option R) → Option R
  | 0, _, _, _ => none
  | n + 1, k_, k0, k1 => F69 fu [D.int r, D.int r1, D.row r2] fun o_0 => bif decide (k_ ≤ IntKind.i64.wrap (o_0 + 1)) then F43 fu k_ l l1 l2 fun o_1 o_2 => F74 fu [D.int r, D.int r1, D.row r2] k_ fun o_3 o_4 => F56 fu k_ l l1 l2 fun o_5 o_6 => bif !decide (o_1 = o_3) then (k0) else bif !o_2 == o_4 then (k0) else bif o_4 then bif !o_6 == decide (r < k_) then (k0) else bif o_6 then bif within (IntKind.i64.wrap (IntKind.i64.wrap (k_ - r) - 1)) r2.length then bif !(decide ((cell 0 o_5).toInt = (cell 0 (elem (IntKind.i64.wrap (IntKind.i64.wrap (k_ - r) - 1)).toNat r2)).toInt) && (strEq (cell 1 o_5).toStr (cell 1 (elem (IntKind.i64.wrap (IntKind.i64.wrap (k_ - r) - 1)).toNat r2)).toStr && true)) then (k0) else bif !o_6 then bif !(decide ((cell 0 o_5).toInt = 0) && (strEq (cell 1 o_5).toStr { data := #[] } && true)) then (k0) else (F61_58 fu l l1 l2 r r1 r2 n (IntKind.i64.wrap (k_ + 1)) k0 k1) else (F61_58 fu l l1 l2 r r1 r2 n (IntKind.i64.wrap (k_ + 1)) k0 k1) else none else bif !o_6 then bif !(decide ((cell 0 o_5).toInt = 0) && (strEq (cell 1 o_5).toStr { data := #[] } && true)) then (k0) else (F61_58 fu l l1 l2 r r1 r2 n (IntKind.i64.wrap (k_ + 1)) k0 k1) else (F61_58 fu l l1 l2 r r1 r2 n (IntKind.i64.wrap (k_ + 1)) k0 k1) else bif !o_6 == false then (k0) else bif o_6 then bif within (IntKind.i64.wrap (IntKind.i64.wrap (k_ - r) - 1)) r2.length then bif !(decide ((cell 0 o_5).toInt = (cell 0 (elem (IntKind.i64.wrap (IntKind.i64.wrap (k_ - r) - 1)).toNat r2)).toInt) && (strEq (cell 1 o_5).toStr (cell 1 (elem (IntKind.i64.wrap (IntKind.i64.wrap (k_ - r) - 1)).toNat r2)).toStr && true)) then (k0) else bif !o_6 then bif !(decide ((cell 0 o_5).toInt = 0) && (strEq (cell 1 o_5).toStr { data := #[] } && true)) then (k0) else (F61_58 fu l l1 l2 r r1 r2 n (IntKind.i64.wrap (k_ + 1)) k0 k1) else (F61_58 fu l l1 l2 r r1 r2 n (IntKind.i64.wrap (k_ + 1)) k0 k1) else none else bif !o_6 then bif !(decide ((cell 0 o_5).toInt = 0) && (strEq (cell 1 o_5).toStr { data := #[] } && true)) then (k0) else (F61_58 fu l l1 l2 r r1 r2 n (IntKind.i64.wrap (k_ + 1)) k0 k1) else (F61_58 fu l l1 l2 r r1 r2 n (IntKind.i64.wrap (k_ + 1)) k0 k1) else (k1)

noncomputable def t61_58 (fu n : Nat) : ToldP := fun _ e s K => match e, s with
  | [.ptr 0 0, .ptr 1 0, .int .i64 k_], [.obj [.int .i64 l, .int .i64 l1, .fz zq0 l2 false], .obj [.int .i64 r, .int .i64 r1, .fz zq1 r2 false]] => (match FT.sames zq0 ft0 with | true => (match FT.sames zq1 ft0 with | true => F61_58 fu l l1 l2 r r1 r2 n k_ (K .ret (unpackM (bitsM 5 0x10) [.bool (false)]) [.obj [.int .i64 (l), .int .i64 (l1), .fz ft0 (l2) false]]) (K (.exit 0) (unpackM (bitsM 5 0x0) []) [.obj [.int .i64 (l), .int .i64 (l1), .fz ft0 (l2) false]]) | false => none) | false => none)
  | _, _ => none

noncomputable def pc61_58 (fu : Nat) : Nat → Option ToldP := fun _ => none
theorem e61_58 (fu n : Nat) (R : Type) (K : VExit → UEnv → USt → Option R) (k_ : Int) (l : Int) (l1 : Int) (l2 : List (List D)) (r : Int) (r1 : Int) (r2 : List (List D)) :
    F61_58 fu l l1 l2 r r1 r2 (n + 1) k_ (K .ret (unpackM (bitsM 5 0x10) [.bool (false)]) [.obj [.int .i64 (l), .int .i64 (l1), .fz ft0 (l2) false]]) (K (.exit 0) (unpackM (bitsM 5 0x0) []) [.obj [.int .i64 (l), .int .i64 (l1), .fz ft0 (l2) false]]) = uexec Try.prog (tb60 fu) 300 (pc61_58 fu) 116 (loopBody (codeAt code61 58)) (unpackM (bitsM 6 0x29) [.ptr 0 0, .ptr 1 0, .int .i64 k_]) [.obj [.int .i64 l, .int .i64 l1, .fz ft0 l2 false], .obj [.int .i64 r, .int .i64 r1, .fz ft0 r2 false]] (loopK 1 [.live (bitsM 6 0x29), .gc, .fzC 1 2 ft0, .gc] [.live (bitsM 5 0x10), .gc] (pkP (bitsM 6 0x29) (t61_58 fu n)) K) := by kernel_rfl

theorem p61_58 (fu : Nat) : SoundPc Try.prog 1 code61 (pc61_58 fu) := SoundPc.none _ _ _
theorem s61_58 (fu : Nat) : ∀ n, SoundP Try.prog 1 (.loop (loopBody (codeAt code61 58))) (pkP (bitsM 6 0x29) (t61_58 fu n)) := by
  refine loopP_sound (gin := [.live (bitsM 6 0x29), .gc, .fzC 1 2 ft0, .gc]) (gout := [.live (bitsM 5 0x10), .gc]) (k := 300) (tb60_sound fu) (p61_58 fu) (by decide) a61_58 (fun R e s K => ?_) (fun n R e s K r h => ?_)
  · unfold t61_58; repeat' split
    all_goals rfl
  · unfold t61_58 at h; split at h
    case h_2 => cases h
    split at h
    case h_2 => cases h
    rename_i hq
    have hq := FT.sames_eq _ _ hq
    subst hq
    split at h
    case h_2 => cases h
    rename_i hq
    have hq := FT.sames_eq _ _ hq
    subst hq
    exact (e61_58 fu n R K _ _ _ _ _ _ _).symm.trans h


noncomputable def F61 {R : Type} (fu : Nat) (r : List D) (l_base : Int) (l_term : Int) (l_l : List (List D)) (k0 : Bool → Option R) : Option R :=
  F55 fu l_base l_term l_l (bif !decide (l_base = (cell 0 r).toInt) then (k0 false) else F44 fu l_base l_term l_l fun o_0 => F69 fu [D.int (cell 0 r).toInt, D.int (cell 1 r).toInt, D.row (cell 2 r).toRows] fun o_1 => bif !decide (o_0 = o_1) then (k0 false) else F61_58 fu l_base l_term l_l (cell 0 r).toInt (cell 1 r).toInt (cell 2 r).toRows fu (IntKind.i64.wrap ((cell 0 r).toInt - 1)) ((k0 false)) ((k0 true)))

noncomputable def pc61 (fu : Nat) : Nat → Option ToldP := fun p => match Nat.beq p 58 with | true => some (ghP 1 [.live (bitsM 6 0x29), .gc, .fzC 1 2 ft0, .gc] (pkP (bitsM 6 0x29) (t61_58 fu fu))) | false => none
noncomputable def t61 (fu : Nat) : ToldF := fun _ args s K => match args, s with
  | [.ptr 0 0, .agg [.int .i64 q, .int .i64 q1, .fz zq0 q2 false]], [.obj [.int .i64 l_base, .int .i64 l_term, .fz zq1 l_l false]] => (match FT.sames zq0 ft0 with | true => (match FT.sames zq1 ft0 with | true => F61 fu [D.int q, D.int q1, D.row q2] l_base l_term l_l (fun o_ => K (.bool o_) [.obj [.int .i64 (l_base), .int .i64 (l_term), .fz ft0 (l_l) false]]) | false => none) | false => none)
  | _, _ => none

theorem e61 (R : Type) (K : UV → USt → Option R) (fu : Nat) (q : Int) (q1 : Int) (q2 : List (List D)) (l_base : Int) (l_term : Int) (l_l : List (List D)) :
    F61 fu [D.int q, D.int q1, D.row q2] l_base l_term l_l (fun o_ => K (.bool o_) [.obj [.int .i64 (l_base), .int .i64 (l_term), .fz ft0 (l_l) false]]) = ufun Try.prog ⟨(tb60 fu), pc61 fu⟩ 300 61 [.ptr 0 0, .agg [.int .i64 q, .int .i64 q1, .fz ft0 q2 false]] [.obj [.int .i64 l_base, .int .i64 l_term, .fz ft0 l_l false]] (funK 1 [.gc, .fzC 0 2 ft0, .gc] K) := by kernel_rfl

theorem s61 (fu : Nat) : Tells Try.prog 61 (t61 fu) := by
  refine ufun_sound (T := ⟨(tb60 fu), pc61 fu⟩) (m := 1) (gout := [.gc, .fzC 0 2 ft0, .gc]) (k := 300) (tb60_sound fu) (fun fn body hf hb => ?_) (fun R args s K r h => ?_) (fun R args s K r h => ?_)
  · have hc : body = code61 := by
      have h1 : Try.prog.funcs[61]? = some Try.f61 := rfl
      rw [h1] at hf; cases hf
      have h2 : Try.f61.body = some code61 := rfl
      rw [h2] at hb; cases hb; rfl
    subst hc
    exact fun p told h b hb => by
      replace h : pc61 fu p = some told := h
      unfold pc61 at h
      split at h
      · rename_i hp
        cases h
        have := Nat.eq_of_beq_eq_true hp
        subst this
        rw [a61_58] at hb
        cases hb
        exact ghP_sound (s61_58 fu _)
      ·
        cases h

  · unfold t61 at h; split at h
    · rfl
    · cases h
  · unfold t61 at h; split at h
    case h_2 => cases h
    split at h
    case h_2 => cases h
    rename_i hq
    have hq := FT.sames_eq _ _ hq
    subst hq
    split at h
    case h_2 => cases h
    rename_i hq
    have hq := FT.sames_eq _ _ hq
    subst hq
    exact (e61 R K fu _ _ _ _ _ _).symm.trans h

noncomputable def tb61 (fu : Nat) : FuncId → Option (Bool × ToldF) := fun f => match Nat.beq f 61 with
  | true => some (false, ghG [.fzP 1 [2] ft0, .gc, .fzC 0 2 ft0, .gc] (t61 fu))
  | false => (tb60 fu) f
theorem tb61_sound (fu : Nat) : SoundF' Try.prog (tb61 fu) := by
  intro f own told h
  unfold tb61 at h
  split at h
  · rename_i hb
    cases h
    have := Nat.eq_of_beq_eq_true hb
    subst this
    exact ghG_sound (s61 fu)
  · exact (tb60_sound fu) f own told h

end Go.Proofs.Ytdoikghgblohjaa.V

/- Printed by ugen: daisychain/daisychainlaw11.few -/
namespace Go.Proofs.Ytdoikghgblohjaa.V
set_option maxRecDepth 100000
set_option maxHeartbeats 4000000

abbrev ft3 : List FT := [FT.int IntKind.i64, FT.int IntKind.i64, FT.int IntKind.i64, FT.row 24 [FT.int IntKind.i64, FT.str]]

noncomputable def code38 : Code := match Try.f38.body with | some c => c | none => .skip
theorem a38_58 : codeAt code38 58 = some (.loop (loopBody (codeAt code38 58))) := by kernel_rfl
noncomputable def F38_58 {R : Type} (fu : Nat) (l : List (List D)) : Nat → Int → Int → (Int → Option R) → (Int → Option R) → Option R
  | 0, _, _, _, _ => none
  | n + 1, n_, k_, k0, k1 => bif decide (k_ < ofN l.length) then bif decide (k_ ≤ 60) then bif within k_ l.length then bif within k_ l.length then bif decide ((cell 1 (elem k_.toNat l)).toInt < -1099511627776) then (k0 (IntKind.i64.wrap (n_ + ofN (cell 3 (elem k_.toNat l)).toRows.length))) else bif within k_ l.length then bif decide (1099511627776 < (cell 1 (elem k_.toNat l)).toInt) then (k0 (IntKind.i64.wrap (n_ + ofN (cell 3 (elem k_.toNat l)).toRows.length))) else (F38_58 fu l n (IntKind.i64.wrap (n_ + ofN (cell 3 (elem k_.toNat l)).toRows.length)) (IntKind.i64.wrap (k_ + 1)) k0 k1) else none else none else none else (k1 n_) else (k1 n_)

noncomputable def t38_58 (fu n : Nat) : ToldP := fun _ e s K => match e, s with
  | [.fz zq0 l false, .int .i64 n_, .int .i64 k_], [] => (match FT.sames zq0 ft3 with | true => F38_58 fu l n n_ k_ (fun o_ => K .ret (unpackM (bitsM 4 0xd) [.fz ft3 (l) false, .bool (false), .int .i64 o_]) []) (fun o_ => K (.exit 0) (unpackM (bitsM 4 0x9) [.fz ft3 (l) false, .int .i64 o_]) []) | false => none)
  | _, _ => none

noncomputable def pc38_58 (fu : Nat) : Nat → Option ToldP := fun _ => none
theorem e38_58 (fu n : Nat) (R : Type) (K : VExit → UEnv → USt → Option R) (l : List (List D)) (n_ : Int) (k_ : Int) :
    F38_58 fu l (n + 1) n_ k_ (fun o_ => K .ret (unpackM (bitsM 4 0xd) [.fz ft3 (l) false, .bool (false), .int .i64 o_]) []) (fun o_ => K (.exit 0) (unpackM (bitsM 4 0x9) [.fz ft3 (l) false, .int .i64 o_]) []) = uexec Try.prog (tb61 fu) 300 (pc38_58 fu) 116 (loopBody (codeAt code38 58)) (unpackM (bitsM 5 0x19) [.fz ft3 l false, .int .i64 n_, .int .i64 k_]) [] (loopK 0 [.live (bitsM 5 0x19), .fzP 0 [] ft3, .gc] [.live (bitsM 4 0xd), .gc] (pkP (bitsM 5 0x19) (t38_58 fu n)) K) := by kernel_rfl

theorem p38_58 (fu : Nat) : SoundPc Try.prog 0 code38 (pc38_58 fu) := SoundPc.none _ _ _
theorem s38_58 (fu : Nat) : ∀ n, SoundP Try.prog 0 (.loop (loopBody (codeAt code38 58))) (pkP (bitsM 5 0x19) (t38_58 fu n)) := by
  refine loopP_sound (gin := [.live (bitsM 5 0x19), .fzP 0 [] ft3, .gc]) (gout := [.live (bitsM 4 0xd), .gc]) (k := 300) (tb61_sound fu) (p38_58 fu) (by decide) a38_58 (fun R e s K => ?_) (fun n R e s K r h => ?_)
  · unfold t38_58; repeat' split
    all_goals rfl
  · unfold t38_58 at h; split at h
    case h_2 => cases h
    split at h
    case h_2 => cases h
    rename_i hq
    have hq := FT.sames_eq _ _ hq
    subst hq
    exact (e38_58 fu n R K _ _ _).symm.trans h


noncomputable def F38 {R : Type} (fu : Nat) (l : List (List D)) (k0 : Bool → Option R) : Option R :=
  F38_58 fu l fu 0 0 (fun o_0 => (k0 false)) fun o_1 => bif decide (ofN l.length ≤ 60) then (k0 (decide (o_1 ≤ 400))) else (k0 false)

noncomputable def pc38 (fu : Nat) : Nat → Option ToldP := fun p => match Nat.beq p 58 with | true => some (ghP 0 [.live (bitsM 5 0x19), .fzP 0 [] ft3, .gc] (pkP (bitsM 5 0x19) (t38_58 fu fu))) | false => none
noncomputable def t38 (fu : Nat) : ToldF := fun _ args s K => match args, s with
  | [.fz zq0 l false], [] => (match FT.sames zq0 ft3 with | true => F38 fu l (fun o_ => K (.bool o_) []) | false => none)
  | _, _ => none

theorem e38 (R : Type) (K : UV → USt → Option R) (fu : Nat) (l : List (List D)) :
    F38 fu l (fun o_ => K (.bool o_) []) = ufun Try.prog ⟨(tb61 fu), pc38 fu⟩ 300 38 [.fz ft3 l false] [] (funK 0 [.gc] K) := by kernel_rfl

theorem s38 (fu : Nat) : Tells Try.prog 38 (t38 fu) := by
  refine ufun_sound (T := ⟨(tb61 fu), pc38 fu⟩) (m := 0) (gout := [.gc]) (k := 300) (tb61_sound fu) (fun fn body hf hb => ?_) (fun R args s K r h => ?_) (fun R args s K r h => ?_)
  · have hc : body = code38 := by
      have h1 : Try.prog.funcs[38]? = some Try.f38 := rfl
      rw [h1] at hf; cases hf
      have h2 : Try.f38.body = some code38 := rfl
      rw [h2] at hb; cases hb; rfl
    subst hc
    exact fun p told h b hb => by
      replace h : pc38 fu p = some told := h
      unfold pc38 at h
      split at h
      · rename_i hp
        cases h
        have := Nat.eq_of_beq_eq_true hp
        subst this
        rw [a38_58] at hb
        cases hb
        exact ghP_sound (s38_58 fu _)
      ·
        cases h

  · unfold t38 at h; split at h
    · rfl
    · cases h
  · unfold t38 at h; split at h
    case h_2 => cases h
    split at h
    case h_2 => cases h
    rename_i hq
    have hq := FT.sames_eq _ _ hq
    subst hq
    exact (e38 R K fu _).symm.trans h

noncomputable def tb38 (fu : Nat) : FuncId → Option (Bool × ToldF) := fun f => match Nat.beq f 38 with
  | true => some (false, ghG [.fzP 0 [] ft3] (t38 fu))
  | false => (tb61 fu) f
theorem tb38_sound (fu : Nat) : SoundF' Try.prog (tb38 fu) := by
  intro f own told h
  unfold tb38 at h
  split at h
  · rename_i hb
    cases h
    have := Nat.eq_of_beq_eq_true hb
    subst this
    exact ghG_sound (s38 fu)
  · exact (tb61_sound fu) f own told h

end Go.Proofs.Ytdoikghgblohjaa.V

/- Printed by ugen: daisychain/daisychainlaw11.awake -/
namespace Go.Proofs.Ytdoikghgblohjaa.V
set_option maxRecDepth 100000
set_option maxHeartbeats 4000000


noncomputable def code39 : Code := match Try.f39.body with | some c => c | none => .skip

noncomputable def F39 {R : Type} (fu : Nat) (k0 : Option R) : Option R :=
  (k0)

noncomputable def pc39 (fu : Nat) : Nat → Option ToldP := fun _ => none
noncomputable def t39 (fu : Nat) : ToldF := fun _ args s K => match args, s with
  | [], [] => F39 fu  (K (.bool (true)) [])
  | _, _ => none

theorem e39 (R : Type) (K : UV → USt → Option R) (fu : Nat) :
    F39 fu  (K (.bool (true)) []) = ufun Try.prog ⟨(tb77 fu), pc39 fu⟩ 300 39 [] [] (funK 0 [.gc] K) := by kernel_rfl

theorem s39 (fu : Nat) : Tells Try.prog 39 (t39 fu) := by
  refine ufun_sound (T := ⟨(tb77 fu), pc39 fu⟩) (m := 0) (gout := [.gc]) (k := 300) (tb77_sound fu) (fun fn body hf hb => ?_) (fun R args s K r h => ?_) (fun R args s K r h => ?_)
  · have hc : body = code39 := by
      have h1 : Try.prog.funcs[39]? = some Try.f39 := rfl
      rw [h1] at hf; cases hf
      have h2 : Try.f39.body = some code39 := rfl
      rw [h2] at hb; cases hb; rfl
    subst hc
    exact SoundPc.none _ _ _
  · unfold t39 at h; split at h
    · rfl
    · cases h
  · unfold t39 at h; split at h
    case h_2 => cases h
    exact (e39 R K fu).symm.trans h

noncomputable def tb39 (fu : Nat) : FuncId → Option (Bool × ToldF) := fun f => match Nat.beq f 39 with
  | true => some (false, ghG [] (t39 fu))
  | false => (tb38 fu) f
theorem tb39_sound (fu : Nat) : SoundF' Try.prog (tb39 fu) := by
  intro f own told h
  unfold tb39 at h
  split at h
  · rename_i hb
    cases h
    have := Nat.eq_of_beq_eq_true hb
    subst this
    exact ghG_sound (s39 fu)
  · exact (tb38_sound fu) f own told h

end Go.Proofs.Ytdoikghgblohjaa.V

/- Printed by ugen: daisychain/daisychainlaw11.does -/
namespace Go.Proofs.Ytdoikghgblohjaa.V
set_option maxRecDepth 100000
set_option maxHeartbeats 4000000


noncomputable def code42 : Code := match Try.f42.body with | some c => c | none => .skip
theorem a42_426 : codeAt code42 426 = some (.loop (loopBody (codeAt code42 426))) := by kernel_rfl
noncomputable def F42_426 {R : Type} (fu : Nat) (x : List (List D)) (x1 : Int) (l : Int) (l1 : Int) (r : Int) (r1 : Int) : Nat → Int → (List (List D)) → (List (List D)) → ((List (List D)) → (List (List D)) → Option R) → ((List (List D)) → (List (List D)) → Option R) → Option R
  | 0, _, _, _, _, _ => none
  | n + 1, x2, l2, r2, k0, k1 => bif decide (x2 < x1) then bif within x2 x.length then bif fits (0 + r2.length) 24 then bif fits (r2.length + 1) 24 then F53 fu [D.int (cell 0 (elem x2.toNat x)).toInt, D.str (cell 1 (elem x2.toNat x)).toStr] l l1 l2 fun o_0 o_1 => F69 fu [D.int r, D.int r1, D.row (r2 ++ [[D.int (cell 0 (elem x2.toNat x)).toInt, D.str (cell 1 (elem x2.toNat x)).toStr]])] fun o_2 => bif !decide (o_0 = o_2) then (k0 o_1 (r2 ++ [[D.int (cell 0 (elem x2.toNat x)).toInt, D.str (cell 1 (elem x2.toNat x)).toStr]])) else (F42_426 fu x x1 l l1 r r1 n (IntKind.i64.wrap (x2 + 1)) o_1 (r2 ++ [[D.int (cell 0 (elem x2.toNat x)).toInt, D.str (cell 1 (elem x2.toNat x)).toStr]]) k0 k1) else none else none else none else (k1 l2 r2)

noncomputable def t42_426 (fu n : Nat) : ToldP := fun _ e s K => match e, s with
  | [.ptr 0 0, .ptr 1 0, .ptr 2 0, .fz zq0 x false, .int .i64 x1, .int .i64 x2], [.obj [.int .i64 l, .int .i64 l1, .fz zq1 l2 false], .obj [.int .i64 r, .int .i64 r1, .fz zq2 r2 false], .obj [.int .i64 x3, .int .i64 x4, .nilslice]] => (match FT.sames zq0 ft0 with | true => (match FT.sames zq1 ft0 with | true => (match FT.sames zq2 ft0 with | true => F42_426 fu x x1 l l1 r r1 n x2 l2 r2 (fun o_ o_1 => K .ret (unpackM (bitsM 8 0xd0) [.ptr 1 0, .ptr 2 0, .bool (false)]) [.obj [.int .i64 (l), .int .i64 (l1), .fz ft0 o_ false], .obj [.int .i64 (r), .int .i64 (r1), .own 3], .obj [.int .i64 (r), .int .i64 (r1), .own 3], .row ft0 o_1]) (fun o_ o_1 => K (.exit 1) (unpackM (bitsM 8 0x50) [.ptr 1 0, .ptr 2 0]) [.obj [.int .i64 (l), .int .i64 (l1), .fz ft0 o_ false], .obj [.int .i64 (r), .int .i64 (r1), .fz ft0 o_1 false], .obj [.int .i64 (x3), .int .i64 (x4), .nilslice]]) | false => none) | false => none) | false => none)
  | _, _ => none

noncomputable def pc42_426 (fu : Nat) : Nat → Option ToldP := fun _ => none
theorem e42_426 (fu n : Nat) (R : Type) (K : VExit → UEnv → USt → Option R) (x : List (List D)) (x1 : Int) (x2 : Int) (l : Int) (l1 : Int) (l2 : List (List D)) (r : Int) (r1 : Int) (r2 : List (List D)) (x3 : Int) (x4 : Int) :
    F42_426 fu x x1 l l1 r r1 (n + 1) x2 l2 r2 (fun o_ o_1 => K .ret (unpackM (bitsM 8 0xd0) [.ptr 1 0, .ptr 2 0, .bool (false)]) [.obj [.int .i64 (l), .int .i64 (l1), .fz ft0 o_ false], .obj [.int .i64 (r), .int .i64 (r1), .own 3], .obj [.int .i64 (r), .int .i64 (r1), .own 3], .row ft0 o_1]) (fun o_ o_1 => K (.exit 1) (unpackM (bitsM 8 0x50) [.ptr 1 0, .ptr 2 0]) [.obj [.int .i64 (l), .int .i64 (l1), .fz ft0 o_ false], .obj [.int .i64 (r), .int .i64 (r1), .fz ft0 o_1 false], .obj [.int .i64 (x3), .int .i64 (x4), .nilslice]]) = uexec Try.prog (tb39 fu) 300 (pc42_426 fu) 852 (loopBody (codeAt code42 426)) (unpackM (bitsM 28 0xe000051) [.ptr 0 0, .ptr 1 0, .ptr 2 0, .fz ft0 x false, .int .i64 x1, .int .i64 x2]) [.obj [.int .i64 l, .int .i64 l1, .fz ft0 l2 false], .obj [.int .i64 r, .int .i64 r1, .fz ft0 r2 false], .obj [.int .i64 x3, .int .i64 x4, .nilslice]] (loopK 1 [.live (bitsM 28 0xe000051), .fzP 25 [] ft0, .gc, .fzC 1 2 ft0, .gc] [.live (bitsM 8 0xd0), .gc] (pkP (bitsM 28 0xe000051) (t42_426 fu n)) K) := by kernel_rfl

theorem p42_426 (fu : Nat) : SoundPc Try.prog 1 code42 (pc42_426 fu) := SoundPc.none _ _ _
theorem s42_426 (fu : Nat) : ∀ n, SoundP Try.prog 1 (.loop (loopBody (codeAt code42 426))) (pkP (bitsM 28 0xe000051) (t42_426 fu n)) := by
  refine loopP_sound (gin := [.live (bitsM 28 0xe000051), .fzP 25 [] ft0, .gc, .fzC 1 2 ft0, .gc]) (gout := [.live (bitsM 8 0xd0), .gc]) (k := 300) (tb39_sound fu) (p42_426 fu) (by decide) a42_426 (fun R e s K => ?_) (fun n R e s K r h => ?_)
  · unfold t42_426; repeat' split
    all_goals rfl
  · unfold t42_426 at h; split at h
    case h_2 => cases h
    split at h
    case h_2 => cases h
    rename_i hq
    have hq := FT.sames_eq _ _ hq
    subst hq
    split at h
    case h_2 => cases h
    rename_i hq
    have hq := FT.sames_eq _ _ hq
    subst hq
    split at h
    case h_2 => cases h
    rename_i hq
    have hq := FT.sames_eq _ _ hq
    subst hq
    exact (e42_426 fu n R K _ _ _ _ _ _ _ _ _ _ _).symm.trans h


noncomputable def F42 {R : Type} (fu : Nat) (r : List D) (o_ : List D) (l_base : Int) (l_term : Int) (l_l : List (List D)) (k0 : (List D) → Bool → Int → Int → (List (List D)) → Option R) : Option R :=
  bif decide ((cell 0 o_).toInt = 0) then F42_426 fu (cell 3 o_).toRows (ofN (cell 3 o_).toRows.length) l_base l_term (cell 0 r).toInt (cell 1 r).toInt fu 0 l_l (cell 2 r).toRows (fun o_0 o_1 => (k0 [D.int ((cell 0 r).toInt), D.int ((cell 1 r).toInt), D.row o_1] false l_base l_term o_0)) fun o_2 o_3 => (k0 [D.int ((cell 0 r).toInt), D.int ((cell 1 r).toInt), D.row o_3] true l_base l_term o_2) else bif decide ((cell 0 o_).toInt = 1) then bif decide ((cell 1 o_).toInt < 0) then F44 fu l_base l_term l_l fun o_4 => F59 fu (cell 3 o_).toRows fun o_5 => F58 fu fu (cell 1 o_).toInt (cell 2 o_).toInt o_5 l_base l_term l_l fun o_6 o_7 o_8 => bif !o_7 then F44 fu l_base l_term o_8 fun o_9 => (k0 r (decide (o_9 = o_4)) l_base l_term o_8) else (k0 r false l_base l_term o_8) else F70 fu [D.int (cell 0 r).toInt, D.int (cell 1 r).toInt, D.row (cell 2 r).toRows] (cell 1 o_).toInt (cell 2 o_).toInt (cell 3 o_).toRows fun o_10 o_11 o_12 => F59 fu (cell 3 o_).toRows fun o_13 => F58 fu fu (cell 1 o_).toInt (cell 2 o_).toInt o_13 l_base l_term l_l fun o_14 o_15 o_16 => bif decide (o_14 = o_11) then (k0 o_10 (o_15 == o_12) l_base l_term o_16) else (k0 o_10 false l_base l_term o_16) else bif decide ((cell 0 o_).toInt = 2) then F71 fu [D.int (cell 0 r).toInt, D.int (cell 1 r).toInt, D.row (cell 2 r).toRows] (cell 1 o_).toInt fun o_17 o_18 => F54 fu (cell 1 o_).toInt l_base l_term l_l fun o_19 o_20 o_21 o_22 => (k0 o_17 (decide (o_19 = o_18)) o_20 o_21 o_22) else (k0 r true l_base l_term l_l)

noncomputable def pc42 (fu : Nat) : Nat → Option ToldP := fun p => match Nat.beq p 426 with | true => some (ghP 1 [.live (bitsM 28 0xe000051), .fzP 25 [] ft0, .gc, .fzC 1 2 ft0, .gc] (pkP (bitsM 28 0xe000051) (t42_426 fu fu))) | false => none
noncomputable def t42 (fu : Nat) : ToldF := fun _ args s K => match args, s with
  | [.ptr 0 0, .agg [.int .i64 q, .int .i64 q1, .fz zq0 q2 false], .agg [.int .i64 q3, .int .i64 q4, .int .i64 q5, .fz zq1 q6 false]], [.obj [.int .i64 l_base, .int .i64 l_term, .fz zq2 l_l false]] => (match FT.sames zq0 ft0 with | true => (match FT.sames zq1 ft0 with | true => (match FT.sames zq2 ft0 with | true => F42 fu [D.int q, D.int q1, D.row q2] [D.int q3, D.int q4, D.int q5, D.row q6] l_base l_term l_l (fun o_ o_1 o_2 o_3 o_4 => K (.tuple [.agg (ofDs 0 ft1 o_), .bool o_1]) [.obj [.int .i64 o_2, .int .i64 o_3, .fz ft0 o_4 false]]) | false => none) | false => none) | false => none)
  | _, _ => none

theorem e42 (R : Type) (K : UV → USt → Option R) (fu : Nat) (q : Int) (q1 : Int) (q2 : List (List D)) (q3 : Int) (q4 : Int) (q5 : Int) (q6 : List (List D)) (l_base : Int) (l_term : Int) (l_l : List (List D)) :
    F42 fu [D.int q, D.int q1, D.row q2] [D.int q3, D.int q4, D.int q5, D.row q6] l_base l_term l_l (fun o_ o_1 o_2 o_3 o_4 => K (.tuple [.agg (ofDs 0 ft1 o_), .bool o_1]) [.obj [.int .i64 o_2, .int .i64 o_3, .fz ft0 o_4 false]]) = ufun Try.prog ⟨(tb39 fu), pc42 fu⟩ 300 42 [.ptr 0 0, .agg [.int .i64 q, .int .i64 q1, .fz ft0 q2 false], .agg [.int .i64 q3, .int .i64 q4, .int .i64 q5, .fz ft0 q6 false]] [.obj [.int .i64 l_base, .int .i64 l_term, .fz ft0 l_l false]] (funK 1 [.fzP 0 [0, 2] ft0, .gc, .fzC 0 2 ft0, .gc] K) := by kernel_rfl

theorem s42 (fu : Nat) : Tells Try.prog 42 (t42 fu) := by
  refine ufun_sound (T := ⟨(tb39 fu), pc42 fu⟩) (m := 1) (gout := [.fzP 0 [0, 2] ft0, .gc, .fzC 0 2 ft0, .gc]) (k := 300) (tb39_sound fu) (fun fn body hf hb => ?_) (fun R args s K r h => ?_) (fun R args s K r h => ?_)
  · have hc : body = code42 := by
      have h1 : Try.prog.funcs[42]? = some Try.f42 := rfl
      rw [h1] at hf; cases hf
      have h2 : Try.f42.body = some code42 := rfl
      rw [h2] at hb; cases hb; rfl
    subst hc
    exact fun p told h b hb => by
      replace h : pc42 fu p = some told := h
      unfold pc42 at h
      split at h
      · rename_i hp
        cases h
        have := Nat.eq_of_beq_eq_true hp
        subst this
        rw [a42_426] at hb
        cases hb
        exact ghP_sound (s42_426 fu _)
      ·
        cases h

  · unfold t42 at h; split at h
    · rfl
    · cases h
  · unfold t42 at h; split at h
    case h_2 => cases h
    split at h
    case h_2 => cases h
    rename_i hq
    have hq := FT.sames_eq _ _ hq
    subst hq
    split at h
    case h_2 => cases h
    rename_i hq
    have hq := FT.sames_eq _ _ hq
    subst hq
    split at h
    case h_2 => cases h
    rename_i hq
    have hq := FT.sames_eq _ _ hq
    subst hq
    exact (e42 R K fu _ _ _ _ _ _ _ _ _ _).symm.trans h

noncomputable def tb42 (fu : Nat) : FuncId → Option (Bool × ToldF) := fun f => match Nat.beq f 42 with
  | true => some (false, ghG [.fzP 1 [2] ft0, .fzP 2 [3] ft0, .gc, .fzC 0 2 ft0, .gc] (t42 fu))
  | false => (tb39 fu) f
theorem tb42_sound (fu : Nat) : SoundF' Try.prog (tb42 fu) := by
  intro f own told h
  unfold tb42 at h
  split at h
  · rename_i hb
    cases h
    have := Nat.eq_of_beq_eq_true hb
    subst this
    exact ghG_sound (s42 fu)
  · exact (tb39_sound fu) f own told h

end Go.Proofs.Ytdoikghgblohjaa.V

/- Printed by ugen: daisychain/daisychainlaw11.EntryAdds -/
namespace Go.Proofs.Ytdoikghgblohjaa.V
set_option maxRecDepth 100000
set_option maxHeartbeats 4000000


noncomputable def code12 : Code := match Try.f12.body with | some c => c | none => .skip
theorem a12_250 : codeAt code12 250 = some (.loop (loopBody (codeAt code12 250))) := by kernel_rfl
noncomputable def F12_250 {R : Type} (fu : Nat) (x : List (List D)) (x1 : Int) (x3 : Int) (x4 : Int) : Nat → Int → (List (List D)) → ((List (List D)) → Option R) → ((List (List D)) → Option R) → Option R
  | 0, _, _, _, _ => none
  | n + 1, x2, x5, k0, k1 => bif decide (x2 < x1) then bif within x2 x.length then F53 fu [D.int (cell 0 (elem x2.toNat x)).toInt, D.str (cell 1 (elem x2.toNat x)).toStr] x3 x4 x5 fun o_0 o_1 => bif !decide (o_0 = IntKind.i64.wrap (x2 + 1)) then (k0 o_1) else (F12_250 fu x x1 x3 x4 n (IntKind.i64.wrap (x2 + 1)) o_1 k0 k1) else none else (k1 x5)

noncomputable def t12_250 (fu n : Nat) : ToldP := fun _ e s K => match e, s with
  | [.fz zq0 l false, .int .i64 pass, .ptr 0 0, .fz zq1 x false, .int .i64 x1, .int .i64 x2], [.obj [.int .i64 x3, .int .i64 x4, .fz zq2 x5 false]] => (match FT.sames zq0 ft0 with | true => (match FT.sames zq1 ft0 with | true => (match FT.sames zq2 ft0 with | true => F12_250 fu x x1 x3 x4 n x2 x5 (fun o_ => K .ret (unpackM (bitsM 6 0x33) [.fz ft0 (l) false, .int .i64 (pass), .bool (false), .ptr 0 0]) [.obj [.int .i64 (x3), .int .i64 (x4), .fz ft0 o_ false]]) (fun o_ => K (.exit 0) (unpackM (bitsM 6 0x23) [.fz ft0 (l) false, .int .i64 (pass), .ptr 0 0]) [.obj [.int .i64 (x3), .int .i64 (x4), .fz ft0 o_ false]]) | false => none) | false => none) | false => none)
  | _, _ => none

noncomputable def pc12_250 (fu : Nat) : Nat → Option ToldP := fun _ => none
theorem e12_250 (fu n : Nat) (R : Type) (K : VExit → UEnv → USt → Option R) (l : List (List D)) (pass : Int) (x : List (List D)) (x1 : Int) (x2 : Int) (x3 : Int) (x4 : Int) (x5 : List (List D)) :
    F12_250 fu x x1 x3 x4 (n + 1) x2 x5 (fun o_ => K .ret (unpackM (bitsM 6 0x33) [.fz ft0 (l) false, .int .i64 (pass), .bool (false), .ptr 0 0]) [.obj [.int .i64 (x3), .int .i64 (x4), .fz ft0 o_ false]]) (fun o_ => K (.exit 0) (unpackM (bitsM 6 0x23) [.fz ft0 (l) false, .int .i64 (pass), .ptr 0 0]) [.obj [.int .i64 (x3), .int .i64 (x4), .fz ft0 o_ false]]) = uexec Try.prog (tb42 fu) 300 (pc12_250 fu) 500 (loopBody (codeAt code12 250)) (unpackM (bitsM 24 0xe00023) [.fz ft0 l false, .int .i64 pass, .ptr 0 0, .fz ft0 x false, .int .i64 x1, .int .i64 x2]) [.obj [.int .i64 x3, .int .i64 x4, .fz ft0 x5 false]] (loopK 0 [.live (bitsM 24 0xe00023), .fzP 0 [] ft0, .fzP 21 [] ft0, .gc, .fzC 0 2 ft0, .gc] [.live (bitsM 6 0x33), .gc] (pkP (bitsM 24 0xe00023) (t12_250 fu n)) K) := by kernel_rfl

theorem p12_250 (fu : Nat) : SoundPc Try.prog 0 code12 (pc12_250 fu) := SoundPc.none _ _ _
theorem s12_250 (fu : Nat) : ∀ n, SoundP Try.prog 0 (.loop (loopBody (codeAt code12 250))) (pkP (bitsM 24 0xe00023) (t12_250 fu n)) := by
  refine loopP_sound (gin := [.live (bitsM 24 0xe00023), .fzP 0 [] ft0, .fzP 21 [] ft0, .gc, .fzC 0 2 ft0, .gc]) (gout := [.live (bitsM 6 0x33), .gc]) (k := 300) (tb42_sound fu) (p12_250 fu) (by decide) a12_250 (fun R e s K => ?_) (fun n R e s K r h => ?_)
  · unfold t12_250; repeat' split
    all_goals rfl
  · unfold t12_250 at h; split at h
    case h_2 => cases h
    split at h
    case h_2 => cases h
    rename_i hq
    have hq := FT.sames_eq _ _ hq
    subst hq
    split at h
    case h_2 => cases h
    rename_i hq
    have hq := FT.sames_eq _ _ hq
    subst hq
    split at h
    case h_2 => cases h
    rename_i hq
    have hq := FT.sames_eq _ _ hq
    subst hq
    exact (e12_250 fu n R K _ _ _ _ _ _ _ _).symm.trans h

theorem a12_1018 : codeAt code12 1018 = some (.loop (loopBody (codeAt code12 1018))) := by kernel_rfl
noncomputable def F12_1018 {R : Type} (fu : Nat) (l : List (List D)) (pass : Int) (x : Int) (x1 : Int) (x2 : List (List D)) : Nat → Int → (Option R) → (Option R) → Option R
  | 0, _, _, _ => none
  | n + 1, k_, k0, k1 => bif decide (k_ ≤ IntKind.i64.wrap (ofN l.length + 1)) then F56 fu k_ x x1 x2 fun o_0 o_1 => F43 fu k_ x x1 x2 fun o_2 o_3 => bif decide (pass < k_) then bif !o_1 == decide (k_ ≤ ofN l.length) then (k0) else bif decide (pass ≤ k_) then bif !o_3 == decide (k_ ≤ ofN l.length) then (k0) else bif o_1 then bif within (IntKind.i64.wrap (k_ - 1)) l.length then bif !(decide ((cell 0 o_0).toInt = (cell 0 (elem (IntKind.i64.wrap (k_ - 1)).toNat l)).toInt) && (strEq (cell 1 o_0).toStr (cell 1 (elem (IntKind.i64.wrap (k_ - 1)).toNat l)).toStr && true)) then (k0) else bif o_3 then bif decide (0 < k_) then bif within (IntKind.i64.wrap (k_ - 1)) l.length then bif !decide (o_2 = (cell 0 (elem (IntKind.i64.wrap (k_ - 1)).toNat l)).toInt) then (k0) else (F12_1018 fu l pass x x1 x2 n (IntKind.i64.wrap (k_ + 1)) k0 k1) else none else bif !decide (o_2 = 0) then (k0) else (F12_1018 fu l pass x x1 x2 n (IntKind.i64.wrap (k_ + 1)) k0 k1) else bif !decide (o_2 = 0) then (k0) else (F12_1018 fu l pass x x1 x2 n (IntKind.i64.wrap (k_ + 1)) k0 k1) else none else bif o_3 then bif decide (0 < k_) then bif within (IntKind.i64.wrap (k_ - 1)) l.length then bif !decide (o_2 = (cell 0 (elem (IntKind.i64.wrap (k_ - 1)).toNat l)).toInt) then (k0) else (F12_1018 fu l pass x x1 x2 n (IntKind.i64.wrap (k_ + 1)) k0 k1) else none else bif !decide (o_2 = 0) then (k0) else (F12_1018 fu l pass x x1 x2 n (IntKind.i64.wrap (k_ + 1)) k0 k1) else bif !decide (o_2 = 0) then (k0) else (F12_1018 fu l pass x x1 x2 n (IntKind.i64.wrap (k_ + 1)) k0 k1) else bif !o_3 == false then (k0) else bif o_1 then bif within (IntKind.i64.wrap (k_ - 1)) l.length then bif !(decide ((cell 0 o_0).toInt = (cell 0 (elem (IntKind.i64.wrap (k_ - 1)).toNat l)).toInt) && (strEq (cell 1 o_0).toStr (cell 1 (elem (IntKind.i64.wrap (k_ - 1)).toNat l)).toStr && true)) then (k0) else bif o_3 then bif decide (0 < k_) then bif within (IntKind.i64.wrap (k_ - 1)) l.length then bif !decide (o_2 = (cell 0 (elem (IntKind.i64.wrap (k_ - 1)).toNat l)).toInt) then (k0) else (F12_1018 fu l pass x x1 x2 n (IntKind.i64.wrap (k_ + 1)) k0 k1) else none else bif !decide (o_2 = 0) then (k0) else (F12_1018 fu l pass x x1 x2 n (IntKind.i64.wrap (k_ + 1)) k0 k1) else bif !decide (o_2 = 0) then (k0) else (F12_1018 fu l pass x x1 x2 n (IntKind.i64.wrap (k_ + 1)) k0 k1) else none else bif o_3 then bif decide (0 < k_) then bif within (IntKind.i64.wrap (k_ - 1)) l.length then bif !decide (o_2 = (cell 0 (elem (IntKind.i64.wrap (k_ - 1)).toNat l)).toInt) then (k0) else (F12_1018 fu l pass x x1 x2 n (IntKind.i64.wrap (k_ + 1)) k0 k1) else none else bif !decide (o_2 = 0) then (k0) else (F12_1018 fu l pass x x1 x2 n (IntKind.i64.wrap (k_ + 1)) k0 k1) else bif !decide (o_2 = 0) then (k0) else (F12_1018 fu l pass x x1 x2 n (IntKind.i64.wrap (k_ + 1)) k0 k1) else bif !o_1 == false then (k0) else bif decide (pass ≤ k_) then bif !o_3 == decide (k_ ≤ ofN l.length) then (k0) else bif o_1 then bif within (IntKind.i64.wrap (k_ - 1)) l.length then bif !(decide ((cell 0 o_0).toInt = (cell 0 (elem (IntKind.i64.wrap (k_ - 1)).toNat l)).toInt) && (strEq (cell 1 o_0).toStr (cell 1 (elem (IntKind.i64.wrap (k_ - 1)).toNat l)).toStr && true)) then (k0) else bif o_3 then bif decide (0 < k_) then bif within (IntKind.i64.wrap (k_ - 1)) l.length then bif !decide (o_2 = (cell 0 (elem (IntKind.i64.wrap (k_ - 1)).toNat l)).toInt) then (k0) else (F12_1018 fu l pass x x1 x2 n (IntKind.i64.wrap (k_ + 1)) k0 k1) else none else bif !decide (o_2 = 0) then (k0) else (F12_1018 fu l pass x x1 x2 n (IntKind.i64.wrap (k_ + 1)) k0 k1) else bif !decide (o_2 = 0) then (k0) else (F12_1018 fu l pass x x1 x2 n (IntKind.i64.wrap (k_ + 1)) k0 k1) else none else bif o_3 then bif decide (0 < k_) then bif within (IntKind.i64.wrap (k_ - 1)) l.length then bif !decide (o_2 = (cell 0 (elem (IntKind.i64.wrap (k_ - 1)).toNat l)).toInt) then (k0) else (F12_1018 fu l pass x x1 x2 n (IntKind.i64.wrap (k_ + 1)) k0 k1) else none else bif !decide (o_2 = 0) then (k0) else (F12_1018 fu l pass x x1 x2 n (IntKind.i64.wrap (k_ + 1)) k0 k1) else bif !decide (o_2 = 0) then (k0) else (F12_1018 fu l pass x x1 x2 n (IntKind.i64.wrap (k_ + 1)) k0 k1) else bif !o_3 == false then (k0) else bif o_1 then bif within (IntKind.i64.wrap (k_ - 1)) l.length then bif !(decide ((cell 0 o_0).toInt = (cell 0 (elem (IntKind.i64.wrap (k_ - 1)).toNat l)).toInt) && (strEq (cell 1 o_0).toStr (cell 1 (elem (IntKind.i64.wrap (k_ - 1)).toNat l)).toStr && true)) then (k0) else bif o_3 then bif decide (0 < k_) then bif within (IntKind.i64.wrap (k_ - 1)) l.length then bif !decide (o_2 = (cell 0 (elem (IntKind.i64.wrap (k_ - 1)).toNat l)).toInt) then (k0) else (F12_1018 fu l pass x x1 x2 n (IntKind.i64.wrap (k_ + 1)) k0 k1) else none else bif !decide (o_2 = 0) then (k0) else (F12_1018 fu l pass x x1 x2 n (IntKind.i64.wrap (k_ + 1)) k0 k1) else bif !decide (o_2 = 0) then (k0) else (F12_1018 fu l pass x x1 x2 n (IntKind.i64.wrap (k_ + 1)) k0 k1) else none else bif o_3 then bif decide (0 < k_) then bif within (IntKind.i64.wrap (k_ - 1)) l.length then bif !decide (o_2 = (cell 0 (elem (IntKind.i64.wrap (k_ - 1)).toNat l)).toInt) then (k0) else (F12_1018 fu l pass x x1 x2 n (IntKind.i64.wrap (k_ + 1)) k0 k1) else none else bif !decide (o_2 = 0) then (k0) else (F12_1018 fu l pass x x1 x2 n (IntKind.i64.wrap (k_ + 1)) k0 k1) else bif !decide (o_2 = 0) then (k0) else (F12_1018 fu l pass x x1 x2 n (IntKind.i64.wrap (k_ + 1)) k0 k1) else (k1)

noncomputable def t12_1018 (fu n : Nat) : ToldP := fun _ e s K => match e, s with
  | [.fz zq0 l false, .int .i64 pass, .ptr 0 0, .int .i64 k_], [.obj [.int .i64 x, .int .i64 x1, .fz zq1 x2 false]] => (match FT.sames zq0 ft0 with | true => (match FT.sames zq1 ft0 with | true => F12_1018 fu l pass x x1 x2 n k_ (K .ret (unpackM (bitsM 6 0x33) [.fz ft0 (l) false, .int .i64 (pass), .bool (false), .ptr 0 0]) [.obj [.int .i64 (x), .int .i64 (x1), .fz ft0 (x2) false]]) (K (.exit 2) (unpackM (bitsM 6 0x23) [.fz ft0 (l) false, .int .i64 (pass), .ptr 0 0]) [.obj [.int .i64 (x), .int .i64 (x1), .fz ft0 (x2) false]]) | false => none) | false => none)
  | _, _ => none

noncomputable def pc12_1018 (fu : Nat) : Nat → Option ToldP := fun _ => none
theorem e12_1018 (fu n : Nat) (R : Type) (K : VExit → UEnv → USt → Option R) (l : List (List D)) (pass : Int) (k_ : Int) (x : Int) (x1 : Int) (x2 : List (List D)) :
    F12_1018 fu l pass x x1 x2 (n + 1) k_ (K .ret (unpackM (bitsM 6 0x33) [.fz ft0 (l) false, .int .i64 (pass), .bool (false), .ptr 0 0]) [.obj [.int .i64 (x), .int .i64 (x1), .fz ft0 (x2) false]]) (K (.exit 2) (unpackM (bitsM 6 0x23) [.fz ft0 (l) false, .int .i64 (pass), .ptr 0 0]) [.obj [.int .i64 (x), .int .i64 (x1), .fz ft0 (x2) false]]) = uexec Try.prog (tb42 fu) 300 (pc12_1018 fu) 2036 (loopBody (codeAt code12 1018)) (unpackM (bitsM 9 0x123) [.fz ft0 l false, .int .i64 pass, .ptr 0 0, .int .i64 k_]) [.obj [.int .i64 x, .int .i64 x1, .fz ft0 x2 false]] (loopK 0 [.live (bitsM 9 0x123), .fzP 0 [] ft0, .gc, .fzC 0 2 ft0, .gc] [.live (bitsM 6 0x33), .gc] (pkP (bitsM 9 0x123) (t12_1018 fu n)) K) := by kernel_rfl

theorem p12_1018 (fu : Nat) : SoundPc Try.prog 0 code12 (pc12_1018 fu) := SoundPc.none _ _ _
theorem s12_1018 (fu : Nat) : ∀ n, SoundP Try.prog 0 (.loop (loopBody (codeAt code12 1018))) (pkP (bitsM 9 0x123) (t12_1018 fu n)) := by
  refine loopP_sound (gin := [.live (bitsM 9 0x123), .fzP 0 [] ft0, .gc, .fzC 0 2 ft0, .gc]) (gout := [.live (bitsM 6 0x33), .gc]) (k := 300) (tb42_sound fu) (p12_1018 fu) (by decide) a12_1018 (fun R e s K => ?_) (fun n R e s K r h => ?_)
  · unfold t12_1018; repeat' split
    all_goals rfl
  · unfold t12_1018 at h; split at h
    case h_2 => cases h
    split at h
    case h_2 => cases h
    rename_i hq
    have hq := FT.sames_eq _ _ hq
    subst hq
    split at h
    case h_2 => cases h
    rename_i hq
    have hq := FT.sames_eq _ _ hq
    subst hq
    exact (e12_1018 fu n R K _ _ _ _ _ _).symm.trans h


noncomputable def F12 {R : Type} (fu : Nat) (l : List (List D)) (pass : Int) (k0 : Bool → Option R) : Option R :=
  bif decide (60 < ofN l.length) then F39 fu ((k0 true)) else F40 fu 0 0 fun o_0 o_1 => F12_250 fu l (ofN l.length) o_0 o_1 fu 0 [] (fun o_2 => (k0 false)) fun o_3 => F54 fu pass o_0 o_1 o_3 fun o_4 o_5 o_6 o_7 => bif !decide (o_4 = 0) then bif decide (pass < 0) then F55 fu o_5 o_6 o_7 (bif decide (o_5 = 0) then F39 fu ((k0 true)) else (k0 false)) else bif decide (ofN l.length < pass) then F55 fu o_5 o_6 o_7 (bif decide (o_5 = 0) then F39 fu ((k0 true)) else (k0 false)) else (k0 false) else F12_1018 fu l pass o_5 o_6 o_7 fu 0 ((k0 false)) (F55 fu o_5 o_6 o_7 (bif decide (o_5 = pass) then F44 fu o_5 o_6 o_7 fun o_8 => bif decide (o_8 = ofN l.length) then F39 fu ((k0 true)) else (k0 false) else (k0 false)))

noncomputable def pc12 (fu : Nat) : Nat → Option ToldP := fun p => match Nat.beq p 250 with | true => some (ghP 0 [.live (bitsM 24 0xe00023), .fzP 0 [] ft0, .fzP 21 [] ft0, .gc, .fzC 0 2 ft0, .gc] (pkP (bitsM 24 0xe00023) (t12_250 fu fu))) | false => match Nat.beq p 1018 with | true => some (ghP 0 [.live (bitsM 9 0x123), .fzP 0 [] ft0, .gc, .fzC 0 2 ft0, .gc] (pkP (bitsM 9 0x123) (t12_1018 fu fu))) | false => none
noncomputable def t12 (fu : Nat) : ToldF := fun _ args s K => match args, s with
  | [.fz zq0 l false, .int .i64 pass], [] => (match FT.sames zq0 ft0 with | true => F12 fu l pass (fun o_ => K (.bool o_) []) | false => none)
  | _, _ => none

theorem e12 (R : Type) (K : UV → USt → Option R) (fu : Nat) (l : List (List D)) (pass : Int) :
    F12 fu l pass (fun o_ => K (.bool o_) []) = ufun Try.prog ⟨(tb42 fu), pc12 fu⟩ 300 12 [.fz ft0 l false, .int .i64 pass] [] (funK 0 [.gc] K) := by kernel_rfl

theorem s12 (fu : Nat) : Tells Try.prog 12 (t12 fu) := by
  refine ufun_sound (T := ⟨(tb42 fu), pc12 fu⟩) (m := 0) (gout := [.gc]) (k := 300) (tb42_sound fu) (fun fn body hf hb => ?_) (fun R args s K r h => ?_) (fun R args s K r h => ?_)
  · have hc : body = code12 := by
      have h1 : Try.prog.funcs[12]? = some Try.f12 := rfl
      rw [h1] at hf; cases hf
      have h2 : Try.f12.body = some code12 := rfl
      rw [h2] at hb; cases hb; rfl
    subst hc
    exact fun p told h b hb => by
      replace h : pc12 fu p = some told := h
      unfold pc12 at h
      split at h
      · rename_i hp
        cases h
        have := Nat.eq_of_beq_eq_true hp
        subst this
        rw [a12_250] at hb
        cases hb
        exact ghP_sound (s12_250 fu _)
      ·
        split at h
        · rename_i hp
          cases h
          have := Nat.eq_of_beq_eq_true hp
          subst this
          rw [a12_1018] at hb
          cases hb
          exact ghP_sound (s12_1018 fu _)
        ·
          cases h

  · unfold t12 at h; split at h
    · rfl
    · cases h
  · unfold t12 at h; split at h
    case h_2 => cases h
    split at h
    case h_2 => cases h
    rename_i hq
    have hq := FT.sames_eq _ _ hq
    subst hq
    exact (e12 R K fu _ _).symm.trans h

noncomputable def tb12 (fu : Nat) : FuncId → Option (Bool × ToldF) := fun f => match Nat.beq f 12 with
  | true => some (false, ghG [.fzP 0 [] ft0] (t12 fu))
  | false => (tb42 fu) f
theorem tb12_sound (fu : Nat) : SoundF' Try.prog (tb12 fu) := by
  intro f own told h
  unfold tb12 at h
  split at h
  · rename_i hb
    cases h
    have := Nat.eq_of_beq_eq_true hb
    subst this
    exact ghG_sound (s12 fu)
  · exact (tb42_sound fu) f own told h

end Go.Proofs.Ytdoikghgblohjaa.V

/- Printed by ugen: daisychain/daisychainlaw11.EntryNewer -/
namespace Go.Proofs.Ytdoikghgblohjaa.V
set_option maxRecDepth 100000
set_option maxHeartbeats 4000000


noncomputable def code10 : Code := match Try.f10.body with | some c => c | none => .skip
theorem a10_506 : codeAt code10 506 = some (.loop (loopBody (codeAt code10 506))) := by kernel_rfl
noncomputable def F10_506 {R : Type} (fu : Nat) (x : List (List D)) (x1 : Int) : Nat → Int → Int → Int → (List (List D)) → Int → Int → (List (List D)) → (Int → Int → (List (List D)) → Int → Int → (List (List D)) → Option R) → Option R
  | 0, _, _, _, _, _, _, _, _ => none
  | n + 1, x2, x3, x4, x5, r, r1, r2, k0 => bif decide (x2 < x1) then bif within x2 x.length then F42 fu [D.int r, D.int r1, D.row r2] [D.int (cell 0 (elem x2.toNat x)).toInt, D.int (cell 1 (elem x2.toNat x)).toInt, D.int (cell 2 (elem x2.toNat x)).toInt, D.row (cell 3 (elem x2.toNat x)).toRows] x3 x4 x5 fun o_0 o_1 o_2 o_3 o_4 => (F10_506 fu x x1 n (IntKind.i64.wrap (x2 + 1)) o_2 o_3 o_4 ((cell 0 o_0).toInt) ((cell 1 o_0).toInt) ((cell 2 o_0).toRows) k0) else none else (k0 x3 x4 x5 r r1 r2)

noncomputable def t10_506 (fu n : Nat) : ToldP := fun _ e s K => match e, s with
  | [.fz zq0 m false, .int .i64 last, .int .i64 term, .ptr 0 0, .ptr 1 0, .ptr 2 0, .ptr 3 0, .fz zq1 x false, .int .i64 x1, .int .i64 x2], [.obj [.int .i64 x3, .int .i64 x4, .fz zq2 x5 false], .obj [.int .i64 r, .int .i64 r1, .fz zq3 r2 false], .obj [.int .i64 y, .int .i64 y1, .fz zq4 y2 false], .obj [.int .i64 s, .int .i64 s1, .fz zq5 s2 false]] => (match FT.sames zq0 ft3 with | true => (match FT.sames zq1 ft3 with | true => (match FT.sames zq2 ft0 with | true => (match FT.sames zq3 ft0 with | true => (match FT.sames zq4 ft0 with | true => (match FT.sames zq5 ft0 with | true => F10_506 fu x x1 n x2 x3 x4 x5 r r1 r2 (fun o_ o_1 o_2 o_3 o_4 o_5 => K (.exit 0) (unpackM (bitsM 13 0x1e0e) [.fz ft3 (m) false, .int .i64 (last), .int .i64 (term), .ptr 0 0, .ptr 1 0, .ptr 2 0, .ptr 3 0]) [.obj [.int .i64 o_, .int .i64 o_1, .fz ft0 o_2 false], .obj [.int .i64 o_3, .int .i64 o_4, .fz ft0 o_5 false], .obj [.int .i64 (y), .int .i64 (y1), .fz ft0 (y2) false], .obj [.int .i64 (s), .int .i64 (s1), .fz ft0 (s2) false]]) | false => none) | false => none) | false => none) | false => none) | false => none) | false => none)
  | _, _ => none

noncomputable def pc10_506 (fu : Nat) : Nat → Option ToldP := fun _ => none
theorem e10_506 (fu n : Nat) (R : Type) (K : VExit → UEnv → USt → Option R) (m : List (List D)) (last : Int) (term : Int) (x : List (List D)) (x1 : Int) (x2 : Int) (x3 : Int) (x4 : Int) (x5 : List (List D)) (r : Int) (r1 : Int) (r2 : List (List D)) (y : Int) (y1 : Int) (y2 : List (List D)) (s : Int) (s1 : Int) (s2 : List (List D)) :
    F10_506 fu x x1 (n + 1) x2 x3 x4 x5 r r1 r2 (fun o_ o_1 o_2 o_3 o_4 o_5 => K (.exit 0) (unpackM (bitsM 13 0x1e0e) [.fz ft3 (m) false, .int .i64 (last), .int .i64 (term), .ptr 0 0, .ptr 1 0, .ptr 2 0, .ptr 3 0]) [.obj [.int .i64 o_, .int .i64 o_1, .fz ft0 o_2 false], .obj [.int .i64 o_3, .int .i64 o_4, .fz ft0 o_5 false], .obj [.int .i64 (y), .int .i64 (y1), .fz ft0 (y2) false], .obj [.int .i64 (s), .int .i64 (s1), .fz ft0 (s2) false]]) = uexec Try.prog (tb12 fu) 300 (pc10_506 fu) 1012 (loopBody (codeAt code10 506)) (unpackM (bitsM 43 0x70000001e0e) [.fz ft3 m false, .int .i64 last, .int .i64 term, .ptr 0 0, .ptr 1 0, .ptr 2 0, .ptr 3 0, .fz ft3 x false, .int .i64 x1, .int .i64 x2]) [.obj [.int .i64 x3, .int .i64 x4, .fz ft0 x5 false], .obj [.int .i64 r, .int .i64 r1, .fz ft0 r2 false], .obj [.int .i64 y, .int .i64 y1, .fz ft0 y2 false], .obj [.int .i64 s, .int .i64 s1, .fz ft0 s2 false]] (loopK 0 [.live (bitsM 43 0x70000001e0e), .fzP 1 [] ft3, .fzP 40 [] ft3, .gc, .fzC 0 2 ft0, .fzC 1 2 ft0, .fzC 2 2 ft0, .fzC 3 2 ft0, .gc] [.live (bitsM 13 0x1f0e), .gc] (pkP (bitsM 43 0x70000001e0e) (t10_506 fu n)) K) := by kernel_rfl

theorem p10_506 (fu : Nat) : SoundPc Try.prog 0 code10 (pc10_506 fu) := SoundPc.none _ _ _
theorem s10_506 (fu : Nat) : ∀ n, SoundP Try.prog 0 (.loop (loopBody (codeAt code10 506))) (pkP (bitsM 43 0x70000001e0e) (t10_506 fu n)) := by
  refine loopP_sound (gin := [.live (bitsM 43 0x70000001e0e), .fzP 1 [] ft3, .fzP 40 [] ft3, .gc, .fzC 0 2 ft0, .fzC 1 2 ft0, .fzC 2 2 ft0, .fzC 3 2 ft0, .gc]) (gout := [.live (bitsM 13 0x1f0e), .gc]) (k := 300) (tb12_sound fu) (p10_506 fu) (by decide) a10_506 (fun R e s K => ?_) (fun n R e s K r h => ?_)
  · unfold t10_506; repeat' split
    all_goals rfl
  · unfold t10_506 at h; split at h
    case h_2 => cases h
    split at h
    case h_2 => cases h
    rename_i hq
    have hq := FT.sames_eq _ _ hq
    subst hq
    split at h
    case h_2 => cases h
    rename_i hq
    have hq := FT.sames_eq _ _ hq
    subst hq
    split at h
    case h_2 => cases h
    rename_i hq
    have hq := FT.sames_eq _ _ hq
    subst hq
    split at h
    case h_2 => cases h
    rename_i hq
    have hq := FT.sames_eq _ _ hq
    subst hq
    split at h
    case h_2 => cases h
    rename_i hq
    have hq := FT.sames_eq _ _ hq
    subst hq
    split at h
    case h_2 => cases h
    rename_i hq
    have hq := FT.sames_eq _ _ hq
    subst hq
    exact (e10_506 fu n R K _ _ _ _ _ _ _ _ _ _ _ _ _ _ _ _ _ _).symm.trans h

theorem a10_1018 : codeAt code10 1018 = some (.loop (loopBody (codeAt code10 1018))) := by kernel_rfl
noncomputable def F10_1018 {R : Type} (fu : Nat) (x : List (List D)) (x1 : Int) : Nat → Int → Int → Int → (List (List D)) → Int → Int → (List (List D)) → (Int → Int → (List (List D)) → Int → Int → (List (List D)) → Option R) → Option R
  | 0, _, _, _, _, _, _, _, _ => none
  | n + 1, x2, y, y1, y2, s, s1, s2, k0 => bif decide (x2 < x1) then bif within x2 x.length then F42 fu [D.int s, D.int s1, D.row s2] [D.int (cell 0 (elem x2.toNat x)).toInt, D.int (cell 1 (elem x2.toNat x)).toInt, D.int (cell 2 (elem x2.toNat x)).toInt, D.row (cell 3 (elem x2.toNat x)).toRows] y y1 y2 fun o_0 o_1 o_2 o_3 o_4 => (F10_1018 fu x x1 n (IntKind.i64.wrap (x2 + 1)) o_2 o_3 o_4 ((cell 0 o_0).toInt) ((cell 1 o_0).toInt) ((cell 2 o_0).toRows) k0) else none else (k0 y y1 y2 s s1 s2)

noncomputable def t10_1018 (fu n : Nat) : ToldP := fun _ e s K => match e, s with
  | [.int .i64 last, .int .i64 term, .ptr 0 0, .ptr 1 0, .ptr 2 0, .ptr 3 0, .fz zq0 x false, .int .i64 x1, .int .i64 x2], [.obj [.int .i64 x3, .int .i64 x4, .fz zq1 x5 false], .obj [.int .i64 r, .int .i64 r1, .fz zq2 r2 false], .obj [.int .i64 y, .int .i64 y1, .fz zq3 y2 false], .obj [.int .i64 s, .int .i64 s1, .fz zq4 s2 false]] => (match FT.sames zq0 ft3 with | true => (match FT.sames zq1 ft0 with | true => (match FT.sames zq2 ft0 with | true => (match FT.sames zq3 ft0 with | true => (match FT.sames zq4 ft0 with | true => F10_1018 fu x x1 n x2 y y1 y2 s s1 s2 (fun o_ o_1 o_2 o_3 o_4 o_5 => K (.exit 2) (unpackM (bitsM 13 0x1e0c) [.int .i64 (last), .int .i64 (term), .ptr 0 0, .ptr 1 0, .ptr 2 0, .ptr 3 0]) [.obj [.int .i64 (x3), .int .i64 (x4), .fz ft0 (x5) false], .obj [.int .i64 (r), .int .i64 (r1), .fz ft0 (r2) false], .obj [.int .i64 o_, .int .i64 o_1, .fz ft0 o_2 false], .obj [.int .i64 o_3, .int .i64 o_4, .fz ft0 o_5 false]]) | false => none) | false => none) | false => none) | false => none) | false => none)
  | _, _ => none

noncomputable def pc10_1018 (fu : Nat) : Nat → Option ToldP := fun _ => none
theorem e10_1018 (fu n : Nat) (R : Type) (K : VExit → UEnv → USt → Option R) (last : Int) (term : Int) (x : List (List D)) (x1 : Int) (x2 : Int) (x3 : Int) (x4 : Int) (x5 : List (List D)) (r : Int) (r1 : Int) (r2 : List (List D)) (y : Int) (y1 : Int) (y2 : List (List D)) (s : Int) (s1 : Int) (s2 : List (List D)) :
    F10_1018 fu x x1 (n + 1) x2 y y1 y2 s s1 s2 (fun o_ o_1 o_2 o_3 o_4 o_5 => K (.exit 2) (unpackM (bitsM 13 0x1e0c) [.int .i64 (last), .int .i64 (term), .ptr 0 0, .ptr 1 0, .ptr 2 0, .ptr 3 0]) [.obj [.int .i64 (x3), .int .i64 (x4), .fz ft0 (x5) false], .obj [.int .i64 (r), .int .i64 (r1), .fz ft0 (r2) false], .obj [.int .i64 o_, .int .i64 o_1, .fz ft0 o_2 false], .obj [.int .i64 o_3, .int .i64 o_4, .fz ft0 o_5 false]]) = uexec Try.prog (tb12 fu) 300 (pc10_1018 fu) 2036 (loopBody (codeAt code10 1018)) (unpackM (bitsM 57 0x1c0000000001e0c) [.int .i64 last, .int .i64 term, .ptr 0 0, .ptr 1 0, .ptr 2 0, .ptr 3 0, .fz ft3 x false, .int .i64 x1, .int .i64 x2]) [.obj [.int .i64 x3, .int .i64 x4, .fz ft0 x5 false], .obj [.int .i64 r, .int .i64 r1, .fz ft0 r2 false], .obj [.int .i64 y, .int .i64 y1, .fz ft0 y2 false], .obj [.int .i64 s, .int .i64 s1, .fz ft0 s2 false]] (loopK 0 [.live (bitsM 57 0x1c0000000001e0c), .fzP 54 [] ft3, .gc, .fzC 0 2 ft0, .fzC 1 2 ft0, .fzC 2 2 ft0, .fzC 3 2 ft0, .gc] [.live (bitsM 13 0x1f0c), .gc] (pkP (bitsM 57 0x1c0000000001e0c) (t10_1018 fu n)) K) := by kernel_rfl

theorem p10_1018 (fu : Nat) : SoundPc Try.prog 0 code10 (pc10_1018 fu) := SoundPc.none _ _ _
theorem s10_1018 (fu : Nat) : ∀ n, SoundP Try.prog 0 (.loop (loopBody (codeAt code10 1018))) (pkP (bitsM 57 0x1c0000000001e0c) (t10_1018 fu n)) := by
  refine loopP_sound (gin := [.live (bitsM 57 0x1c0000000001e0c), .fzP 54 [] ft3, .gc, .fzC 0 2 ft0, .fzC 1 2 ft0, .fzC 2 2 ft0, .fzC 3 2 ft0, .gc]) (gout := [.live (bitsM 13 0x1f0c), .gc]) (k := 300) (tb12_sound fu) (p10_1018 fu) (by decide) a10_1018 (fun R e s K => ?_) (fun n R e s K r h => ?_)
  · unfold t10_1018; repeat' split
    all_goals rfl
  · unfold t10_1018 at h; split at h
    case h_2 => cases h
    split at h
    case h_2 => cases h
    rename_i hq
    have hq := FT.sames_eq _ _ hq
    subst hq
    split at h
    case h_2 => cases h
    rename_i hq
    have hq := FT.sames_eq _ _ hq
    subst hq
    split at h
    case h_2 => cases h
    rename_i hq
    have hq := FT.sames_eq _ _ hq
    subst hq
    split at h
    case h_2 => cases h
    rename_i hq
    have hq := FT.sames_eq _ _ hq
    subst hq
    split at h
    case h_2 => cases h
    rename_i hq
    have hq := FT.sames_eq _ _ hq
    subst hq
    exact (e10_1018 fu n R K _ _ _ _ _ _ _ _ _ _ _ _ _ _ _ _ _).symm.trans h

theorem a10_2047 : codeAt code10 2047 = some (pieceOf (codeAt code10 2047)) := by kernel_rfl
noncomputable def F10_2047 {R : Type} (fu : Nat) (last : Int) (term : Int) (x : Int) (x1 : Int) (x2 : List (List D)) (r : Int) (r1 : Int) (r2 : List (List D)) (y : Int) (y1 : Int) (y2 : List (List D)) (s : Int) (s1 : Int) (s2 : List (List D)) (k0 : Bool → Option R) : Option R :=
  F45 fu last term x x1 x2 fun o_0 => F46 fu [D.int r, D.int r1, D.row r2] last term fun o_1 => bif o_0 == o_1 then F45 fu last term y y1 y2 fun o_2 => F46 fu [D.int s, D.int s1, D.row s2] last term fun o_3 => bif o_2 == o_3 then F39 fu ((k0 true)) else (k0 false) else (k0 false)

noncomputable def t10_2047 (fu : Nat) : ToldP := fun _ e s K => match e, s with
  | [.int .i64 last, .int .i64 term, .ptr 0 0, .ptr 1 0, .ptr 2 0, .ptr 3 0], [.obj [.int .i64 x, .int .i64 x1, .fz zq0 x2 false], .obj [.int .i64 r, .int .i64 r1, .fz zq1 r2 false], .obj [.int .i64 y, .int .i64 y1, .fz zq2 y2 false], .obj [.int .i64 s, .int .i64 s1, .fz zq3 s2 false]] => (match FT.sames zq0 ft0 with | true => (match FT.sames zq1 ft0 with | true => (match FT.sames zq2 ft0 with | true => (match FT.sames zq3 ft0 with | true => F10_2047 fu last term x x1 x2 r r1 r2 y y1 y2 s s1 s2 (fun o_ => K .ret (unpackM (bitsM 9 0x100) [.bool o_]) []) | false => none) | false => none) | false => none) | false => none)
  | _, _ => none

noncomputable def pc10_2047 (fu : Nat) : Nat → Option ToldP := fun _ => none
theorem e10_2047 (fu : Nat) (R : Type) (K : VExit → UEnv → USt → Option R) (last : Int) (term : Int) (x : Int) (x1 : Int) (x2 : List (List D)) (r : Int) (r1 : Int) (r2 : List (List D)) (y : Int) (y1 : Int) (y2 : List (List D)) (s : Int) (s1 : Int) (s2 : List (List D)) :
    F10_2047 fu last term x x1 x2 r r1 r2 y y1 y2 s s1 s2 (fun o_ => K .ret (unpackM (bitsM 9 0x100) [.bool o_]) []) = uexec Try.prog (tb12 fu) 300 (pc10_2047 fu) 2047 (pieceOf (codeAt code10 2047)) (unpackM (bitsM 13 0x1e0c) [.int .i64 last, .int .i64 term, .ptr 0 0, .ptr 1 0, .ptr 2 0, .ptr 3 0]) [.obj [.int .i64 x, .int .i64 x1, .fz ft0 x2 false], .obj [.int .i64 r, .int .i64 r1, .fz ft0 r2 false], .obj [.int .i64 y, .int .i64 y1, .fz ft0 y2 false], .obj [.int .i64 s, .int .i64 s1, .fz ft0 s2 false]] (ghK 0 [.live (bitsM 9 0x100), .gc] K) := by kernel_rfl

theorem p10_2047 (fu : Nat) : SoundPc Try.prog 0 code10 (pc10_2047 fu) := SoundPc.none _ _ _
theorem s10_2047 (fu : Nat) : SoundP Try.prog 0 (pieceOf (codeAt code10 2047)) (pkP (bitsM 13 0x1e0c) (t10_2047 fu)) := by
  refine pieceP_sound (gout := [.live (bitsM 9 0x100), .gc]) (k := 300) (tb12_sound fu) (p10_2047 fu) (by decide) a10_2047 (fun R e s K r h => ?_)
  unfold t10_2047 at h; split at h
  case h_2 => cases h
  split at h
  case h_2 => cases h
  rename_i hq
  have hq := FT.sames_eq _ _ hq
  subst hq
  split at h
  case h_2 => cases h
  rename_i hq
  have hq := FT.sames_eq _ _ hq
  subst hq
  split at h
  case h_2 => cases h
  rename_i hq
  have hq := FT.sames_eq _ _ hq
  subst hq
  split at h
  case h_2 => cases h
  rename_i hq
  have hq := FT.sames_eq _ _ hq
  subst hq
  exact (e10_2047 fu R K _ _ _ _ _ _ _ _ _ _ _ _ _ _).symm.trans h


noncomputable def F10 {R : Type} (fu : Nat) (l : List (List D)) (m : List (List D)) (last : Int) (term : Int) (k0 : Bool → Option R) : Option R :=
  F38 fu l fun o_0 => bif !o_0 then F39 fu ((k0 true)) else F38 fu m fun o_1 => bif !o_1 then F39 fu ((k0 true)) else F40 fu 0 0 fun o_2 o_3 => F41 fu 0 0 fun o_4 => F40 fu 0 0 fun o_5 o_6 => F41 fu 0 0 fun o_7 => F10_506 fu l (ofN l.length) fu 0 o_2 o_3 [] (cell 0 o_4).toInt (cell 1 o_4).toInt (cell 2 o_4).toRows fun o_8 o_9 o_10 o_11 o_12 o_13 => F10_1018 fu m (ofN m.length) fu 0 o_5 o_6 [] (cell 0 o_7).toInt (cell 1 o_7).toInt (cell 2 o_7).toRows fun o_14 o_15 o_16 o_17 o_18 o_19 => F44 fu o_8 o_9 o_10 fun o_20 => F43 fu o_20 o_8 o_9 o_10 fun o_21 o_22 => F44 fu o_14 o_15 o_16 fun o_23 => F43 fu o_23 o_14 o_15 o_16 fun o_24 o_25 => F44 fu o_14 o_15 o_16 fun o_26 => F45 fu o_26 o_24 o_8 o_9 o_10 fun o_27 => bif !o_27 then F44 fu o_8 o_9 o_10 fun o_28 => F45 fu o_28 o_21 o_14 o_15 o_16 fun o_29 => bif !o_29 then (k0 false) else F44 fu o_8 o_9 o_10 fun o_30 => F45 fu o_30 o_21 o_8 o_9 o_10 fun o_31 => bif !o_31 then (k0 false) else F10_2047 fu last term o_8 o_9 o_10 o_11 o_12 o_13 o_14 o_15 o_16 o_17 o_18 o_19 fun o_32 => (k0 o_32) else F44 fu o_8 o_9 o_10 fun o_33 => F45 fu o_33 o_21 o_8 o_9 o_10 fun o_34 => bif !o_34 then (k0 false) else F10_2047 fu last term o_8 o_9 o_10 o_11 o_12 o_13 o_14 o_15 o_16 o_17 o_18 o_19 fun o_35 => (k0 o_35)

noncomputable def pc10 (fu : Nat) : Nat → Option ToldP := fun p => match Nat.beq p 506 with | true => some (ghP 0 [.live (bitsM 43 0x70000001e0e), .fzP 1 [] ft3, .fzP 40 [] ft3, .gc, .fzC 0 2 ft0, .fzC 1 2 ft0, .fzC 2 2 ft0, .fzC 3 2 ft0, .gc] (pkP (bitsM 43 0x70000001e0e) (t10_506 fu fu))) | false => match Nat.beq p 1018 with | true => some (ghP 0 [.live (bitsM 57 0x1c0000000001e0c), .fzP 54 [] ft3, .gc, .fzC 0 2 ft0, .fzC 1 2 ft0, .fzC 2 2 ft0, .fzC 3 2 ft0, .gc] (pkP (bitsM 57 0x1c0000000001e0c) (t10_1018 fu fu))) | false => match Nat.beq p 2047 with | true => some (ghP 0 [.live (bitsM 13 0x1e0c), .gc, .fzC 0 2 ft0, .fzC 1 2 ft0, .fzC 2 2 ft0, .fzC 3 2 ft0, .gc] (pkP (bitsM 13 0x1e0c) (t10_2047 fu))) | false => none
noncomputable def t10 (fu : Nat) : ToldF := fun _ args s K => match args, s with
  | [.fz zq0 l false, .fz zq1 m false, .int .i64 last, .int .i64 term], [] => (match FT.sames zq0 ft3 with | true => (match FT.sames zq1 ft3 with | true => F10 fu l m last term (fun o_ => K (.bool o_) []) | false => none) | false => none)
  | _, _ => none

theorem e10 (R : Type) (K : UV → USt → Option R) (fu : Nat) (l : List (List D)) (m : List (List D)) (last : Int) (term : Int) :
    F10 fu l m last term (fun o_ => K (.bool o_) []) = ufun Try.prog ⟨(tb12 fu), pc10 fu⟩ 300 10 [.fz ft3 l false, .fz ft3 m false, .int .i64 last, .int .i64 term] [] (funK 0 [.gc] K) := by kernel_rfl

theorem s10 (fu : Nat) : Tells Try.prog 10 (t10 fu) := by
  refine ufun_sound (T := ⟨(tb12 fu), pc10 fu⟩) (m := 0) (gout := [.gc]) (k := 300) (tb12_sound fu) (fun fn body hf hb => ?_) (fun R args s K r h => ?_) (fun R args s K r h => ?_)
  · have hc : body = code10 := by
      have h1 : Try.prog.funcs[10]? = some Try.f10 := rfl
      rw [h1] at hf; cases hf
      have h2 : Try.f10.body = some code10 := rfl
      rw [h2] at hb; cases hb; rfl
    subst hc
    exact fun p told h b hb => by
      replace h : pc10 fu p = some told := h
      unfold pc10 at h
      split at h
      · rename_i hp
        cases h
        have := Nat.eq_of_beq_eq_true hp
        subst this
        rw [a10_506] at hb
        cases hb
        exact ghP_sound (s10_506 fu _)
      ·
        split at h
        · rename_i hp
          cases h
          have := Nat.eq_of_beq_eq_true hp
          subst this
          rw [a10_1018] at hb
          cases hb
          exact ghP_sound (s10_1018 fu _)
        ·
          split at h
          · rename_i hp
            cases h
            have := Nat.eq_of_beq_eq_true hp
            subst this
            rw [a10_2047] at hb
            cases hb
            exact ghP_sound (s10_2047 fu)
          ·
            cases h

  · unfold t10 at h; split at h
    · rfl
    · cases h
  · unfold t10 at h; split at h
    case h_2 => cases h
    split at h
    case h_2 => cases h
    rename_i hq
    have hq := FT.sames_eq _ _ hq
    subst hq
    split at h
    case h_2 => cases h
    rename_i hq
    have hq := FT.sames_eq _ _ hq
    subst hq
    exact (e10 R K fu _ _ _ _).symm.trans h

noncomputable def tb10 (fu : Nat) : FuncId → Option (Bool × ToldF) := fun f => match Nat.beq f 10 with
  | true => some (false, ghG [.fzP 0 [] ft3, .fzP 1 [] ft3] (t10 fu))
  | false => (tb12 fu) f
theorem tb10_sound (fu : Nat) : SoundF' Try.prog (tb10 fu) := by
  intro f own told h
  unfold tb10 at h
  split at h
  · rename_i hb
    cases h
    have := Nat.eq_of_beq_eq_true hb
    subst this
    exact ghG_sound (s10 fu)
  · exact (tb12_sound fu) f own told h

end Go.Proofs.Ytdoikghgblohjaa.V

/- Printed by ugen: daisychain/daisychainlaw11.EntryMatches -/
namespace Go.Proofs.Ytdoikghgblohjaa.V
set_option maxRecDepth 100000
set_option maxHeartbeats 4000000


noncomputable def code13 : Code := match Try.f13.body with | some c => c | none => .skip
theorem a13_250 : codeAt code13 250 = some (.loop (loopBody (codeAt code13 250))) := by kernel_rfl
noncomputable def F13_250 {R : Type} (fu : Nat) (x : List (List D)) (x1 : Int) : Nat → Int → Int → Int → (List (List D)) → Int → Int → (List (List D)) → (Int → Int → (List (List D)) → Option R) → Option R
  | 0, _, _, _, _, _, _, _, _ => none
  | n + 1, x2, x3, x4, x5, r, r1, r2, k0 => bif decide (x2 < x1) then bif within x2 x.length then F42 fu [D.int r, D.int r1, D.row r2] [D.int (cell 0 (elem x2.toNat x)).toInt, D.int (cell 1 (elem x2.toNat x)).toInt, D.int (cell 2 (elem x2.toNat x)).toInt, D.row (cell 3 (elem x2.toNat x)).toRows] x3 x4 x5 fun o_0 o_1 o_2 o_3 o_4 => (F13_250 fu x x1 n (IntKind.i64.wrap (x2 + 1)) o_2 o_3 o_4 ((cell 0 o_0).toInt) ((cell 1 o_0).toInt) ((cell 2 o_0).toRows) k0) else none else (k0 x3 x4 x5)

noncomputable def t13_250 (fu n : Nat) : ToldP := fun _ e s K => match e, s with
  | [.int .i64 at_, .fz zq0 more false, .ptr 0 0, .ptr 1 0, .fz zq1 x false, .int .i64 x1, .int .i64 x2], [.obj [.int .i64 x3, .int .i64 x4, .fz zq2 x5 false], .obj [.int .i64 r, .int .i64 r1, .fz zq3 r2 false]] => (match FT.sames zq0 ft0 with | true => (match FT.sames zq1 ft3 with | true => (match FT.sames zq2 ft0 with | true => (match FT.sames zq3 ft0 with | true => F13_250 fu x x1 n x2 x3 x4 x5 r r1 r2 (fun o_ o_1 o_2 => K (.exit 0) (unpackM (bitsM 8 0x86) [.int .i64 (at_), .fz ft0 (more) false, .ptr 0 0]) [.obj [.int .i64 o_, .int .i64 o_1, .fz ft0 o_2 false]]) | false => none) | false => none) | false => none) | false => none)
  | _, _ => none

noncomputable def pc13_250 (fu : Nat) : Nat → Option ToldP := fun _ => none
theorem e13_250 (fu n : Nat) (R : Type) (K : VExit → UEnv → USt → Option R) (at_ : Int) (more : List (List D)) (x : List (List D)) (x1 : Int) (x2 : Int) (x3 : Int) (x4 : Int) (x5 : List (List D)) (r : Int) (r1 : Int) (r2 : List (List D)) :
    F13_250 fu x x1 (n + 1) x2 x3 x4 x5 r r1 r2 (fun o_ o_1 o_2 => K (.exit 0) (unpackM (bitsM 8 0x86) [.int .i64 (at_), .fz ft0 (more) false, .ptr 0 0]) [.obj [.int .i64 o_, .int .i64 o_1, .fz ft0 o_2 false]]) = uexec Try.prog (tb10 fu) 300 (pc13_250 fu) 500 (loopBody (codeAt code13 250)) (unpackM (bitsM 43 0x70000000186) [.int .i64 at_, .fz ft0 more false, .ptr 0 0, .ptr 1 0, .fz ft3 x false, .int .i64 x1, .int .i64 x2]) [.obj [.int .i64 x3, .int .i64 x4, .fz ft0 x5 false], .obj [.int .i64 r, .int .i64 r1, .fz ft0 r2 false]] (loopK 0 [.live (bitsM 43 0x70000000186), .fzP 2 [] ft0, .fzP 40 [] ft3, .gc, .fzC 0 2 ft0, .fzC 1 2 ft0, .gc] [.live (bitsM 8 0xc6), .gc] (pkP (bitsM 43 0x70000000186) (t13_250 fu n)) K) := by kernel_rfl

theorem p13_250 (fu : Nat) : SoundPc Try.prog 0 code13 (pc13_250 fu) := SoundPc.none _ _ _
theorem s13_250 (fu : Nat) : ∀ n, SoundP Try.prog 0 (.loop (loopBody (codeAt code13 250))) (pkP (bitsM 43 0x70000000186) (t13_250 fu n)) := by
  refine loopP_sound (gin := [.live (bitsM 43 0x70000000186), .fzP 2 [] ft0, .fzP 40 [] ft3, .gc, .fzC 0 2 ft0, .fzC 1 2 ft0, .gc]) (gout := [.live (bitsM 8 0xc6), .gc]) (k := 300) (tb10_sound fu) (p13_250 fu) (by decide) a13_250 (fun R e s K => ?_) (fun n R e s K r h => ?_)
  · unfold t13_250; repeat' split
    all_goals rfl
  · unfold t13_250 at h; split at h
    case h_2 => cases h
    split at h
    case h_2 => cases h
    rename_i hq
    have hq := FT.sames_eq _ _ hq
    subst hq
    split at h
    case h_2 => cases h
    rename_i hq
    have hq := FT.sames_eq _ _ hq
    subst hq
    split at h
    case h_2 => cases h
    rename_i hq
    have hq := FT.sames_eq _ _ hq
    subst hq
    split at h
    case h_2 => cases h
    rename_i hq
    have hq := FT.sames_eq _ _ hq
    subst hq
    exact (e13_250 fu n R K _ _ _ _ _ _ _ _ _ _ _).symm.trans h

theorem a13_4093 : codeAt code13 4093 = some (pieceOf (codeAt code13 4093)) := by kernel_rfl
noncomputable def F13_4093 {R : Type} (fu : Nat) (at_ : Int) (is_ : Bool) (x : Bool) (x1 : Int) (x2 : Int) (x3 : List (List D)) (k0 : Bool → Option R) (k1 : Option R) : Option R :=
  bif x then bif decide (0 ≤ at_) then F55 fu x1 x2 x3 (bif decide (at_ < x1) == is_ then F39 fu ((k0 true)) else (k0 false)) else bif false == is_ then F39 fu ((k0 true)) else (k0 false) else (k1)

noncomputable def t13_4093 (fu : Nat) : ToldP := fun _ e s K => match e, s with
  | [.int .i64 at_, .fz zq0 more false, .ptr 0 0, .ptr 1 0, .int .i64 n_, .bool is_, .bool x], [.obj [.int .i64 x1, .int .i64 x2, .fz zq1 x3 false], .obj [.int .i64 was, .int .i64 was1, .fz zq2 was2 false]] => (match FT.sames zq0 ft0 with | true => (match FT.sames zq1 ft0 with | true => (match FT.sames zq2 ft0 with | true => F13_4093 fu at_ is_ x x1 x2 x3 (fun o_ => K .ret (unpackM (bitsM 16 0xe0c6) [.int .i64 (at_), .fz ft0 (more) false, .bool o_, .ptr 0 0, .ptr 1 0, .int .i64 (n_), .bool (is_)]) [.obj [.int .i64 (x1), .int .i64 (x2), .fz ft0 (x3) false], .obj [.int .i64 (was), .int .i64 (was1), .fz ft0 (was2) false]]) (K .normal (unpackM (bitsM 16 0xe086) [.int .i64 (at_), .fz ft0 (more) false, .ptr 0 0, .ptr 1 0, .int .i64 (n_), .bool (is_)]) [.obj [.int .i64 (x1), .int .i64 (x2), .fz ft0 (x3) false], .obj [.int .i64 (was), .int .i64 (was1), .fz ft0 (was2) false]]) | false => none) | false => none) | false => none)
  | _, _ => none

noncomputable def pc13_4093 (fu : Nat) : Nat → Option ToldP := fun _ => none
theorem e13_4093 (fu : Nat) (R : Type) (K : VExit → UEnv → USt → Option R) (at_ : Int) (more : List (List D)) (n_ : Int) (is_ : Bool) (x : Bool) (x1 : Int) (x2 : Int) (x3 : List (List D)) (was : Int) (was1 : Int) (was2 : List (List D)) :
    F13_4093 fu at_ is_ x x1 x2 x3 (fun o_ => K .ret (unpackM (bitsM 16 0xe0c6) [.int .i64 (at_), .fz ft0 (more) false, .bool o_, .ptr 0 0, .ptr 1 0, .int .i64 (n_), .bool (is_)]) [.obj [.int .i64 (x1), .int .i64 (x2), .fz ft0 (x3) false], .obj [.int .i64 (was), .int .i64 (was1), .fz ft0 (was2) false]]) (K .normal (unpackM (bitsM 16 0xe086) [.int .i64 (at_), .fz ft0 (more) false, .ptr 0 0, .ptr 1 0, .int .i64 (n_), .bool (is_)]) [.obj [.int .i64 (x1), .int .i64 (x2), .fz ft0 (x3) false], .obj [.int .i64 (was), .int .i64 (was1), .fz ft0 (was2) false]]) = uexec Try.prog (tb10 fu) 300 (pc13_4093 fu) 4093 (pieceOf (codeAt code13 4093)) (unpackM (bitsM 83 0x40000000000000000e086) [.int .i64 at_, .fz ft0 more false, .ptr 0 0, .ptr 1 0, .int .i64 n_, .bool is_, .bool x]) [.obj [.int .i64 x1, .int .i64 x2, .fz ft0 x3 false], .obj [.int .i64 was, .int .i64 was1, .fz ft0 was2 false]] (ghK 0 [.live (bitsM 16 0xe0c6), .gc] K) := by kernel_rfl

theorem p13_4093 (fu : Nat) : SoundPc Try.prog 0 code13 (pc13_4093 fu) := SoundPc.none _ _ _
theorem s13_4093 (fu : Nat) : SoundP Try.prog 0 (pieceOf (codeAt code13 4093)) (pkP (bitsM 83 0x40000000000000000e086) (t13_4093 fu)) := by
  refine pieceP_sound (gout := [.live (bitsM 16 0xe0c6), .gc]) (k := 300) (tb10_sound fu) (p13_4093 fu) (by decide) a13_4093 (fun R e s K r h => ?_)
  unfold t13_4093 at h; split at h
  case h_2 => cases h
  split at h
  case h_2 => cases h
  rename_i hq
  have hq := FT.sames_eq _ _ hq
  subst hq
  split at h
  case h_2 => cases h
  rename_i hq
  have hq := FT.sames_eq _ _ hq
  subst hq
  split at h
  case h_2 => cases h
  rename_i hq
  have hq := FT.sames_eq _ _ hq
  subst hq
  exact (e13_4093 fu R K _ _ _ _ _ _ _ _ _ _ _).symm.trans h

theorem a13_2047 : codeAt code13 2047 = some (pieceOf (codeAt code13 2047)) := by kernel_rfl
theorem a13_32762 : codeAt code13 32762 = some (.loop (loopBody (codeAt code13 32762))) := by kernel_rfl
noncomputable def F13_32762 {R : Type} (fu : Nat) (at_ : Int) (x : Int) (x1 : Int) (x2 : List (List D)) (was : Int) (was1 : Int) (was2 : List (List D)) : Nat → Int → (Option R) → (Option R) → Option R
  | 0, _, _, _ => none
  | n + 1, k_, k0, k1 => bif decide (k_ ≤ at_) then F56 fu k_ x x1 x2 fun o_0 o_1 => F56 fu k_ was was1 was2 fun o_2 o_3 => bif !(decide ((cell 0 o_0).toInt = (cell 0 o_2).toInt) && (strEq (cell 1 o_0).toStr (cell 1 o_2).toStr && true)) then (k0) else (F13_32762 fu at_ x x1 x2 was was1 was2 n (IntKind.i64.wrap (k_ + 1)) k0 k1) else (k1)

noncomputable def t13_32762 (fu n : Nat) : ToldP := fun _ e s K => match e, s with
  | [.int .i64 at_, .fz zq0 more false, .ptr 0 0, .ptr 1 0, .int .i64 k_], [.obj [.int .i64 x, .int .i64 x1, .fz zq1 x2 false], .obj [.int .i64 was, .int .i64 was1, .fz zq2 was2 false]] => (match FT.sames zq0 ft0 with | true => (match FT.sames zq1 ft0 with | true => (match FT.sames zq2 ft0 with | true => F13_32762 fu at_ x x1 x2 was was1 was2 n k_ (K .ret (unpackM (bitsM 14 0x20c6) [.int .i64 (at_), .fz ft0 (more) false, .bool (false), .ptr 0 0, .ptr 1 0]) [.obj [.int .i64 (x), .int .i64 (x1), .fz ft0 (x2) false], .obj [.int .i64 (was), .int .i64 (was1), .fz ft0 (was2) false]]) (K (.exit 2) (unpackM (bitsM 14 0x2086) [.int .i64 (at_), .fz ft0 (more) false, .ptr 0 0, .ptr 1 0]) [.obj [.int .i64 (x), .int .i64 (x1), .fz ft0 (x2) false], .obj [.int .i64 (was), .int .i64 (was1), .fz ft0 (was2) false]]) | false => none) | false => none) | false => none)
  | _, _ => none

noncomputable def pc13_32762 (fu : Nat) : Nat → Option ToldP := fun _ => none
theorem e13_32762 (fu n : Nat) (R : Type) (K : VExit → UEnv → USt → Option R) (at_ : Int) (more : List (List D)) (k_ : Int) (x : Int) (x1 : Int) (x2 : List (List D)) (was : Int) (was1 : Int) (was2 : List (List D)) :
    F13_32762 fu at_ x x1 x2 was was1 was2 (n + 1) k_ (K .ret (unpackM (bitsM 14 0x20c6) [.int .i64 (at_), .fz ft0 (more) false, .bool (false), .ptr 0 0, .ptr 1 0]) [.obj [.int .i64 (x), .int .i64 (x1), .fz ft0 (x2) false], .obj [.int .i64 (was), .int .i64 (was1), .fz ft0 (was2) false]]) (K (.exit 2) (unpackM (bitsM 14 0x2086) [.int .i64 (at_), .fz ft0 (more) false, .ptr 0 0, .ptr 1 0]) [.obj [.int .i64 (x), .int .i64 (x1), .fz ft0 (x2) false], .obj [.int .i64 (was), .int .i64 (was1), .fz ft0 (was2) false]]) = uexec Try.prog (tb10 fu) 300 (pc13_32762 fu) 65524 (loopBody (codeAt code13 32762)) (unpackM (bitsM 17 0x12086) [.int .i64 at_, .fz ft0 more false, .ptr 0 0, .ptr 1 0, .int .i64 k_]) [.obj [.int .i64 x, .int .i64 x1, .fz ft0 x2 false], .obj [.int .i64 was, .int .i64 was1, .fz ft0 was2 false]] (loopK 0 [.live (bitsM 17 0x12086), .fzP 2 [] ft0, .gc, .fzC 0 2 ft0, .fzC 1 2 ft0, .gc] [.live (bitsM 14 0x20c6), .gc] (pkP (bitsM 17 0x12086) (t13_32762 fu n)) K) := by kernel_rfl

theorem p13_32762 (fu : Nat) : SoundPc Try.prog 0 code13 (pc13_32762 fu) := SoundPc.none _ _ _
theorem s13_32762 (fu : Nat) : ∀ n, SoundP Try.prog 0 (.loop (loopBody (codeAt code13 32762))) (pkP (bitsM 17 0x12086) (t13_32762 fu n)) := by
  refine loopP_sound (gin := [.live (bitsM 17 0x12086), .fzP 2 [] ft0, .gc, .fzC 0 2 ft0, .fzC 1 2 ft0, .gc]) (gout := [.live (bitsM 14 0x20c6), .gc]) (k := 300) (tb10_sound fu) (p13_32762 fu) (by decide) a13_32762 (fun R e s K => ?_) (fun n R e s K r h => ?_)
  · unfold t13_32762; repeat' split
    all_goals rfl
  · unfold t13_32762 at h; split at h
    case h_2 => cases h
    split at h
    case h_2 => cases h
    rename_i hq
    have hq := FT.sames_eq _ _ hq
    subst hq
    split at h
    case h_2 => cases h
    rename_i hq
    have hq := FT.sames_eq _ _ hq
    subst hq
    split at h
    case h_2 => cases h
    rename_i hq
    have hq := FT.sames_eq _ _ hq
    subst hq
    exact (e13_32762 fu n R K _ _ _ _ _ _ _ _ _).symm.trans h

theorem a13_65530 : codeAt code13 65530 = some (.loop (loopBody (codeAt code13 65530))) := by kernel_rfl
noncomputable def F13_65530 {R : Type} (fu : Nat) (at_ : Int) (x : List (List D)) (x1 : Int) (x3 : Int) (x4 : Int) (x5 : List (List D)) (was : Int) (was1 : Int) (was2 : List (List D)) : Nat → Int → (Option R) → (Option R) → Option R
  | 0, _, _, _ => none
  | n + 1, x2, k0, k1 => bif decide (x2 < x1) then bif within x2 x.length then F56 fu (IntKind.i64.wrap (IntKind.i64.wrap (at_ + 1) + x2)) x3 x4 x5 fun o_0 o_1 => F56 fu (IntKind.i64.wrap (IntKind.i64.wrap (at_ + 1) + x2)) was was1 was2 fun o_2 o_3 => bif !o_1 then (k0) else bif !decide ((cell 0 o_0).toInt = (cell 0 (elem x2.toNat x)).toInt) then (k0) else bif !(decide ((cell 0 o_0).toInt = (cell 0 (elem x2.toNat x)).toInt) && (strEq (cell 1 o_0).toStr (cell 1 (elem x2.toNat x)).toStr && true)) then bif o_3 then bif !(decide ((cell 0 o_0).toInt = (cell 0 o_2).toInt) && (strEq (cell 1 o_0).toStr (cell 1 o_2).toStr && true)) then (k0) else (F13_65530 fu at_ x x1 x3 x4 x5 was was1 was2 n (IntKind.i64.wrap (x2 + 1)) k0 k1) else (k0) else (F13_65530 fu at_ x x1 x3 x4 x5 was was1 was2 n (IntKind.i64.wrap (x2 + 1)) k0 k1) else none else (k1)

noncomputable def t13_65530 (fu n : Nat) : ToldP := fun _ e s K => match e, s with
  | [.int .i64 at_, .ptr 0 0, .ptr 1 0, .fz zq0 x false, .int .i64 x1, .int .i64 x2], [.obj [.int .i64 x3, .int .i64 x4, .fz zq1 x5 false], .obj [.int .i64 was, .int .i64 was1, .fz zq2 was2 false]] => (match FT.sames zq0 ft0 with | true => (match FT.sames zq1 ft0 with | true => (match FT.sames zq2 ft0 with | true => F13_65530 fu at_ x x1 x3 x4 x5 was was1 was2 n x2 (K .ret (unpackM (bitsM 7 0x40) [.bool (false)]) []) (K (.exit 4) (unpackM (bitsM 7 0x0) []) []) | false => none) | false => none) | false => none)
  | _, _ => none

noncomputable def pc13_65530 (fu : Nat) : Nat → Option ToldP := fun _ => none
theorem e13_65530 (fu n : Nat) (R : Type) (K : VExit → UEnv → USt → Option R) (at_ : Int) (x : List (List D)) (x1 : Int) (x2 : Int) (x3 : Int) (x4 : Int) (x5 : List (List D)) (was : Int) (was1 : Int) (was2 : List (List D)) :
    F13_65530 fu at_ x x1 x3 x4 x5 was was1 was2 (n + 1) x2 (K .ret (unpackM (bitsM 7 0x40) [.bool (false)]) []) (K (.exit 4) (unpackM (bitsM 7 0x0) []) []) = uexec Try.prog (tb10 fu) 300 (pc13_65530 fu) 131060 (loopBody (codeAt code13 65530)) (unpackM (bitsM 131 0x700000000000000000000000000002082) [.int .i64 at_, .ptr 0 0, .ptr 1 0, .fz ft0 x false, .int .i64 x1, .int .i64 x2]) [.obj [.int .i64 x3, .int .i64 x4, .fz ft0 x5 false], .obj [.int .i64 was, .int .i64 was1, .fz ft0 was2 false]] (loopK 0 [.live (bitsM 131 0x700000000000000000000000000002082), .fzP 128 [] ft0, .gc, .fzC 0 2 ft0, .fzC 1 2 ft0, .gc] [.live (bitsM 7 0x40), .gc] (pkP (bitsM 131 0x700000000000000000000000000002082) (t13_65530 fu n)) K) := by kernel_rfl

theorem p13_65530 (fu : Nat) : SoundPc Try.prog 0 code13 (pc13_65530 fu) := SoundPc.none _ _ _
theorem s13_65530 (fu : Nat) : ∀ n, SoundP Try.prog 0 (.loop (loopBody (codeAt code13 65530))) (pkP (bitsM 131 0x700000000000000000000000000002082) (t13_65530 fu n)) := by
  refine loopP_sound (gin := [.live (bitsM 131 0x700000000000000000000000000002082), .fzP 128 [] ft0, .gc, .fzC 0 2 ft0, .fzC 1 2 ft0, .gc]) (gout := [.live (bitsM 7 0x40), .gc]) (k := 300) (tb10_sound fu) (p13_65530 fu) (by decide) a13_65530 (fun R e s K => ?_) (fun n R e s K r h => ?_)
  · unfold t13_65530; repeat' split
    all_goals rfl
  · unfold t13_65530 at h; split at h
    case h_2 => cases h
    split at h
    case h_2 => cases h
    rename_i hq
    have hq := FT.sames_eq _ _ hq
    subst hq
    split at h
    case h_2 => cases h
    rename_i hq
    have hq := FT.sames_eq _ _ hq
    subst hq
    split at h
    case h_2 => cases h
    rename_i hq
    have hq := FT.sames_eq _ _ hq
    subst hq
    exact (e13_65530 fu n R K _ _ _ _ _ _ _ _ _ _).symm.trans h

noncomputable def F13_2047 {R : Type} (fu : Nat) (at_ : Int) (more : List (List D)) (n_ : Int) (is_ : Bool) (x : Int) (x1 : Int) (x2 : List (List D)) (was : Int) (was1 : Int) (was2 : List (List D)) (k0 : Bool → Option R) : Option R :=
  bif !is_ then (k0 false) else bif !decide (n_ = IntKind.i64.wrap (at_ + ofN more.length)) then (k0 false) else F55 fu x x1 x2 (F13_32762 fu at_ x x1 x2 was was1 was2 fu x ((k0 false)) (F13_65530 fu at_ more (ofN more.length) x x1 x2 was was1 was2 fu 0 ((k0 false)) (F39 fu ((k0 true)))))

noncomputable def t13_2047 (fu : Nat) : ToldP := fun _ e s K => match e, s with
  | [.int .i64 at_, .fz zq0 more false, .ptr 0 0, .ptr 1 0, .int .i64 n_, .bool is_], [.obj [.int .i64 x, .int .i64 x1, .fz zq1 x2 false], .obj [.int .i64 was, .int .i64 was1, .fz zq2 was2 false]] => (match FT.sames zq0 ft0 with | true => (match FT.sames zq1 ft0 with | true => (match FT.sames zq2 ft0 with | true => F13_2047 fu at_ more n_ is_ x x1 x2 was was1 was2 (fun o_ => K .ret (unpackM (bitsM 7 0x40) [.bool o_]) []) | false => none) | false => none) | false => none)
  | _, _ => none

noncomputable def pc13_2047 (fu : Nat) : Nat → Option ToldP := fun p => match Nat.beq p 32762 with | true => some (ghP 0 [.live (bitsM 17 0x12086), .fzP 2 [] ft0, .gc, .fzC 0 2 ft0, .fzC 1 2 ft0, .gc] (pkP (bitsM 17 0x12086) (t13_32762 fu fu))) | false => match Nat.beq p 65530 with | true => some (ghP 0 [.live (bitsM 131 0x700000000000000000000000000002082), .fzP 128 [] ft0, .gc, .fzC 0 2 ft0, .fzC 1 2 ft0, .gc] (pkP (bitsM 131 0x700000000000000000000000000002082) (t13_65530 fu fu))) | false => none
theorem e13_2047 (fu : Nat) (R : Type) (K : VExit → UEnv → USt → Option R) (at_ : Int) (more : List (List D)) (n_ : Int) (is_ : Bool) (x : Int) (x1 : Int) (x2 : List (List D)) (was : Int) (was1 : Int) (was2 : List (List D)) :
    F13_2047 fu at_ more n_ is_ x x1 x2 was was1 was2 (fun o_ => K .ret (unpackM (bitsM 7 0x40) [.bool o_]) []) = uexec Try.prog (tb10 fu) 300 (pc13_2047 fu) 2047 (pieceOf (codeAt code13 2047)) (unpackM (bitsM 16 0xe086) [.int .i64 at_, .fz ft0 more false, .ptr 0 0, .ptr 1 0, .int .i64 n_, .bool is_]) [.obj [.int .i64 x, .int .i64 x1, .fz ft0 x2 false], .obj [.int .i64 was, .int .i64 was1, .fz ft0 was2 false]] (ghK 0 [.live (bitsM 7 0x40), .gc] K) := by kernel_rfl

theorem p13_2047 (fu : Nat) : SoundPc Try.prog 0 code13 (pc13_2047 fu) := fun p told h b hb => by
  replace h : pc13_2047 fu p = some told := h
  unfold pc13_2047 at h
  split at h
  · rename_i hp
    cases h
    have := Nat.eq_of_beq_eq_true hp
    subst this
    rw [a13_32762] at hb
    cases hb
    exact ghP_sound (s13_32762 fu _)
  ·
    split at h
    · rename_i hp
      cases h
      have := Nat.eq_of_beq_eq_true hp
      subst this
      rw [a13_65530] at hb
      cases hb
      exact ghP_sound (s13_65530 fu _)
    ·
      cases h

theorem s13_2047 (fu : Nat) : SoundP Try.prog 0 (pieceOf (codeAt code13 2047)) (pkP (bitsM 16 0xe086) (t13_2047 fu)) := by
  refine pieceP_sound (gout := [.live (bitsM 7 0x40), .gc]) (k := 300) (tb10_sound fu) (p13_2047 fu) (by decide) a13_2047 (fun R e s K r h => ?_)
  unfold t13_2047 at h; split at h
  case h_2 => cases h
  split at h
  case h_2 => cases h
  rename_i hq
  have hq := FT.sames_eq _ _ hq
  subst hq
  split at h
  case h_2 => cases h
  rename_i hq
  have hq := FT.sames_eq _ _ hq
  subst hq
  split at h
  case h_2 => cases h
  rename_i hq
  have hq := FT.sames_eq _ _ hq
  subst hq
  exact (e13_2047 fu R K _ _ _ _ _ _ _ _ _ _).symm.trans h


noncomputable def F13 {R : Type} (fu : Nat) (l : List (List D)) (at_ : Int) (more : List (List D)) (k0 : Bool → Option R) : Option R :=
  F38 fu l fun o_0 => bif !o_0 then F39 fu ((k0 true)) else bif decide (60 < ofN more.length) then F39 fu ((k0 true)) else F40 fu 0 0 fun o_1 o_2 => F41 fu 0 0 fun o_3 => F13_250 fu l (ofN l.length) fu 0 o_1 o_2 [] (cell 0 o_3).toInt (cell 1 o_3).toInt (cell 2 o_3).toRows fun o_4 o_5 o_6 => F43 fu at_ o_4 o_5 o_6 fun o_7 o_8 => F57 fu o_4 o_5 o_6 (F59 fu more fun o_9 => F58 fu fu at_ o_7 o_9 o_4 o_5 o_6 fun o_10 o_11 o_12 => F55 fu o_4 o_5 o_12 (bif decide (at_ < o_4) then F13_4093 fu at_ o_11 true o_4 o_5 o_12 (fun o_13 => (k0 o_13)) (F13_2047 fu at_ more o_10 o_11 o_4 o_5 o_12 o_4 o_5 o_6 fun o_14 => (k0 o_14)) else F44 fu o_4 o_5 o_6 fun o_15 => F13_4093 fu at_ o_11 (decide (o_15 < at_)) o_4 o_5 o_12 (fun o_16 => (k0 o_16)) (F13_2047 fu at_ more o_10 o_11 o_4 o_5 o_12 o_4 o_5 o_6 fun o_17 => (k0 o_17))))

noncomputable def pc13 (fu : Nat) : Nat → Option ToldP := fun p => match Nat.beq p 250 with | true => some (ghP 0 [.live (bitsM 43 0x70000000186), .fzP 2 [] ft0, .fzP 40 [] ft3, .gc, .fzC 0 2 ft0, .fzC 1 2 ft0, .gc] (pkP (bitsM 43 0x70000000186) (t13_250 fu fu))) | false => match Nat.beq p 4093 with | true => some (ghP 0 [.live (bitsM 83 0x40000000000000000e086), .fzP 2 [] ft0, .gc, .fzC 0 2 ft0, .fzC 1 2 ft0, .gc] (pkP (bitsM 83 0x40000000000000000e086) (t13_4093 fu))) | false => match Nat.beq p 2047 with | true => some (ghP 0 [.live (bitsM 16 0xe086), .fzP 2 [] ft0, .gc, .fzC 0 2 ft0, .fzC 1 2 ft0, .gc] (pkP (bitsM 16 0xe086) (t13_2047 fu))) | false => none
noncomputable def t13 (fu : Nat) : ToldF := fun _ args s K => match args, s with
  | [.fz zq0 l false, .int .i64 at_, .fz zq1 more false], [] => (match FT.sames zq0 ft3 with | true => (match FT.sames zq1 ft0 with | true => F13 fu l at_ more (fun o_ => K (.bool o_) []) | false => none) | false => none)
  | _, _ => none

theorem e13 (R : Type) (K : UV → USt → Option R) (fu : Nat) (l : List (List D)) (at_ : Int) (more : List (List D)) :
    F13 fu l at_ more (fun o_ => K (.bool o_) []) = ufun Try.prog ⟨(tb10 fu), pc13 fu⟩ 300 13 [.fz ft3 l false, .int .i64 at_, .fz ft0 more false] [] (funK 0 [.gc] K) := by kernel_rfl

theorem s13 (fu : Nat) : Tells Try.prog 13 (t13 fu) := by
  refine ufun_sound (T := ⟨(tb10 fu), pc13 fu⟩) (m := 0) (gout := [.gc]) (k := 300) (tb10_sound fu) (fun fn body hf hb => ?_) (fun R args s K r h => ?_) (fun R args s K r h => ?_)
  · have hc : body = code13 := by
      have h1 : Try.prog.funcs[13]? = some Try.f13 := rfl
      rw [h1] at hf; cases hf
      have h2 : Try.f13.body = some code13 := rfl
      rw [h2] at hb; cases hb; rfl
    subst hc
    exact fun p told h b hb => by
      replace h : pc13 fu p = some told := h
      unfold pc13 at h
      split at h
      · rename_i hp
        cases h
        have := Nat.eq_of_beq_eq_true hp
        subst this
        rw [a13_250] at hb
        cases hb
        exact ghP_sound (s13_250 fu _)
      ·
        split at h
        · rename_i hp
          cases h
          have := Nat.eq_of_beq_eq_true hp
          subst this
          rw [a13_4093] at hb
          cases hb
          exact ghP_sound (s13_4093 fu)
        ·
          split at h
          · rename_i hp
            cases h
            have := Nat.eq_of_beq_eq_true hp
            subst this
            rw [a13_2047] at hb
            cases hb
            exact ghP_sound (s13_2047 fu)
          ·
            cases h

  · unfold t13 at h; split at h
    · rfl
    · cases h
  · unfold t13 at h; split at h
    case h_2 => cases h
    split at h
    case h_2 => cases h
    rename_i hq
    have hq := FT.sames_eq _ _ hq
    subst hq
    split at h
    case h_2 => cases h
    rename_i hq
    have hq := FT.sames_eq _ _ hq
    subst hq
    exact (e13 R K fu _ _ _).symm.trans h

noncomputable def tb13 (fu : Nat) : FuncId → Option (Bool × ToldF) := fun f => match Nat.beq f 13 with
  | true => some (false, ghG [.fzP 0 [] ft3, .fzP 2 [] ft0] (t13 fu))
  | false => (tb10 fu) f
theorem tb13_sound (fu : Nat) : SoundF' Try.prog (tb13 fu) := by
  intro f own told h
  unfold tb13 at h
  split at h
  · rename_i hb
    cases h
    have := Nat.eq_of_beq_eq_true hb
    subst this
    exact ghG_sound (s13 fu)
  · exact (tb10_sound fu) f own told h

end Go.Proofs.Ytdoikghgblohjaa.V

/- From the plain law of function 13 to V's. -/
namespace Go.Proofs.Ytdoikghgblohjaa.V

theorem law13 (fu : Nat) (H : ∀ (ds1 ds2 ds3 : List D), WFDs [FT.row 48 [FT.int IntKind.i64, FT.int IntKind.i64, FT.int IntKind.i64, FT.row 24 [FT.int IntKind.i64, FT.str]]] ds1 → WFDs ft2 ds2 → WFDs [FT.row 24 [FT.int IntKind.i64, FT.str]] ds3 → F13 fu ((cell 0 ds1).toRows) ((cell 0 ds2).toInt) ((cell 0 ds3).toRows) (fun o => some o) = some true) : Law Try.prog 13 Try.f13.params.toList := by
  refine law_of_told (by kernel_rfl) (by kernel_rfl) (s13 fu) (fun dss hw => ?_)
  have hts : Try.f13.params.toList = [78, 3, 82] := rfl
  rw [hts] at hw
  cases hw with
  | cons t1 ts1 fts1 ds1 dss1 hf1 hd1 hr1 =>
    have e1 : flat Try.prog 20 78 = some [FT.row 48 [FT.int IntKind.i64, FT.int IntKind.i64, FT.int IntKind.i64, FT.row 24 [FT.int IntKind.i64, FT.str]]] := by kernel_rfl
    rw [e1] at hf1; cases hf1
    cases hr1 with
    | cons t2 ts2 fts2 ds2 dss2 hf2 hd2 hr2 =>
      have e2 : flat Try.prog 20 3 = some ft2 := by kernel_rfl
      rw [e2] at hf2; cases hf2
      cases hr2 with
      | cons t3 ts3 fts3 ds3 dss3 hf3 hd3 hr3 =>
        have e3 : flat Try.prog 20 82 = some [FT.row 24 [FT.int IntKind.i64, FT.str]] := by kernel_rfl
        rw [e3] at hf3; cases hf3
        cases hr3
        have h1 : t13 fu Bool (argsU Try.prog Try.f13.params.toList [ds1, ds2, ds3]) [] boolK = F13 fu ((cell 0 ds1).toRows) ((cell 0 ds2).toInt) ((cell 0 ds3).toRows) (fun o => some o) := by kernel_rfl
        exact h1.trans (H ds1 ds2 ds3 hd1 hd2 hd3)
end Go.Proofs.Ytdoikghgblohjaa.V

/- Words that all plain proofs use. -/
namespace Go.Proofs.Ytdoikghgblohjaa.V

theorem wrap_of {x : Int} (h0 : -9223372036854775808 ≤ x) (h1 : x ≤ 9223372036854775807) : IntKind.i64.wrap x = x := by
  rw [IntKind.wrap_i64]; omega

theorem wrap_succ {i : Nat} (h : i ≤ 9223372036854775806) : IntKind.i64.wrap ((i : Int) + 1) = ((i + 1 : Nat) : Int) := by rw [wrap_of (by omega) (by omega)]; rfl

theorem fits_of {n b : Nat} (hn : n ≤ 1000000) (hb : b ≤ 1000) : fits n b = true := by
  unfold fits maxBytes
  have : n * b ≤ 1000000 * 1000 := Nat.mul_le_mul hn hb
  exact decide_eq_true ⟨by omega, by omega⟩

theorem within_of {j n : Nat} (h : j < n) : within (j : Int) n = true := by
  unfold within; exact decide_eq_true ⟨by omega, by omega⟩

theorem within_int {j : Int} {n : Nat} (h0 : 0 ≤ j) (h : j < n) : within j n = true := by
  unfold within; exact decide_eq_true ⟨h0, by omega⟩

theorem lt_true {a b : Int} (h : a < b) : decide (a < b) = true := decide_eq_true h
theorem lt_false {a b : Int} (h : ¬ a < b) : decide (a < b) = false := decide_eq_false h
theorem le_true {a b : Int} (h : a ≤ b) : decide (a ≤ b) = true := decide_eq_true h
theorem le_false {a b : Int} (h : ¬ a ≤ b) : decide (a ≤ b) = false := decide_eq_false h
theorem eq_true {a b : Int} (h : a = b) : decide (a = b) = true := decide_eq_true h
theorem eq_false {a b : Int} (h : ¬ a = b) : decide (a = b) = false := decide_eq_false h

theorem strEq_refl (x : ByteArray) : strEq x x = true := by simp [strEq]

theorem elem_mem {i : Nat} {l : List (List D)} (h : i < l.length) : elem i l ∈ l := by
  unfold elem
  rw [List.getD_eq_getElem?_getD, List.getElem?_eq_getElem h]
  exact List.getElem_mem h

/-- Sizes of data as it comes. -/
theorem WFD.rows_len {bytes : Nat} {fts : List FT} {d : D} (h : WFD (.row bytes fts) d) : d.toRows.length * bytes ≤ reachBytes := by
  cases h with
  | nil => simp [D.toRows]
  | row _ _ rows hb hl hr => simp only [D.toRows]; first | exact hb | (simpa using hb)

theorem WFD.str_len {d : D} (h : WFD .str d) : d.toStr.size ≤ reachBytes := by
  cases h with
  | str s h => exact h

theorem WFD.rows {bytes : Nat} {fts : List FT} {d : D} (h : WFD (.row bytes fts) d) : ∀ r ∈ d.toRows, WFDs fts r := by
  cases h with
  | nil => intro r hr; cases hr
  | row _ _ rows hb hl hr =>
    intro r hm
    refine ⟨hl r hm, fun j ft d h1 h2 => hr r hm j ft d h1 h2⟩

theorem WFDs.cell {fts : List FT} {ds : List D} (h : WFDs fts ds) {j : Nat} {ft : FT} (hj : fts[j]? = some ft) : WFD ft (V.cell j ds) := by
  have hlt : j < ds.length := by rw [h.len]; exact (List.getElem?_eq_some_iff.1 hj).1
  have hd := List.getElem?_eq_getElem hlt
  unfold V.cell
  rw [List.getD_eq_getElem?_getD, hd]
  exact h.at_ j ft _ hj hd

theorem reach_lt : reachBytes < 140737488355328 := by decide

end Go.Proofs.Ytdoikghgblohjaa.V

/- entry: what its functions tell. -/
namespace Go.Proofs.Ytdoikghgblohjaa.V
variable {R : Type}

/-- An entry, cell by cell. -/
abbrev NE (r : List D) : List D := [D.int (cell 0 r).toInt, D.str (cell 1 r).toStr]

theorem part_all (l : List (List D)) : part l 0 l.length = l := by simp [part]

theorem last_ok (fu : Nat) (b t : Int) (l : List (List D)) (k : Int → Option R) (hb : 0 ≤ b) (hb2 : b ≤ 4611686018427387904) (hl : l.length ≤ 1000000) : F44 fu b t l k = k (b + l.length) := by
  unfold F44
  rw [wrap_of (by unfold ofN; omega) (by unfold ofN; omega)]; rfl

theorem add_ok (fu : Nat) (e : List D) (b t : Int) (l : List (List D)) (k : Int → List (List D) → Option R) (hb : 0 ≤ b) (hb2 : b ≤ 4611686018427387904) (hl : l.length ≤ 900000) :
    F53 fu e b t l k = k (b + l.length + 1) (l ++ [NE e]) := by
  unfold F53
  cases l with
  | nil =>
    simp only [List.length_nil, ofN, Int.natCast_zero, decide_true, Bool.and_self, cond_true, List.nil_append]
    rw [last_ok _ _ _ _ _ hb hb2 (by simp)]
    simp [NE]
  | cons x l =>
    rw [eq_false (show ¬ ofN (x :: l).length = 0 by unfold ofN; simp; omega), Bool.and_self, cond_false, eq_true rfl, Bool.and_true]
    have h1 : decide ((0 : Nat) ≤ 0 ∧ 0 ≤ ofN (x :: l).length) = true := decide_eq_true ⟨Nat.le_refl _, by unfold ofN; omega⟩
    have h2 : upTo (ofN (x :: l).length) (x :: l).length = true := by unfold upTo ofN; exact decide_eq_true ⟨by omega, by simp⟩
    have h3 : part (x :: l) 0 (ofN (x :: l).length).toNat = x :: l := by unfold ofN; rw [Int.toNat_natCast]; exact part_all _
    rw [h1, h2, Bool.and_self, cond_true, h3, fits_of (by omega) (by omega), cond_true, last_ok _ _ _ _ _ hb hb2 (by simp at hl ⊢; omega)]
    simp only [List.length_append, List.length_singleton]
    congr 1
    push_cast; omega

theorem term_out (fu : Nat) (x b t : Int) (l : List (List D)) (k : Int → Bool → Option R) (hb : 0 ≤ b) (hb2 : b ≤ 4611686018427387904) (hl : l.length ≤ 1000000) (h : x < b ∨ b + l.length < x) : F43 fu x b t l k = k 0 false := by
  unfold F43
  by_cases h1 : x < b
  · rw [lt_true h1]; rfl
  · rw [lt_false h1, cond_false, last_ok _ _ _ _ _ hb hb2 hl, lt_true (by omega)]; rfl

theorem term_base (fu : Nat) (b t : Int) (l : List (List D)) (k : Int → Bool → Option R) (hb : 0 ≤ b) (hb2 : b ≤ 4611686018427387904) (hl : l.length ≤ 1000000) : F43 fu b b t l k = k t true := by
  unfold F43
  rw [lt_false (by omega), cond_false, last_ok _ _ _ _ _ hb hb2 hl, lt_false (by omega), cond_false, eq_true rfl]; rfl

theorem term_in (fu : Nat) (i : Nat) (b t : Int) (l : List (List D)) (k : Int → Bool → Option R) (hb : 0 ≤ b) (hb2 : b ≤ 4611686018427387904) (hl : l.length ≤ 1000000) (hi : i < l.length) : F43 fu (b + 1 + i) b t l k = k (cell 0 (elem i l)).toInt true := by
  unfold F43
  have e : IntKind.i64.wrap (IntKind.i64.wrap (b + 1 + i - b) - 1) = (i : Int) := by rw [wrap_of (x := b + 1 + i - b) (by omega) (by omega), wrap_of (by omega) (by omega)]; omega
  rw [lt_false (by omega), cond_false, last_ok _ _ _ _ _ hb hb2 hl, lt_false (by omega), cond_false, eq_false (by omega), cond_false, e, within_of hi, cond_true, Int.toNat_natCast]

theorem get_out (fu : Nat) (x b t : Int) (l : List (List D)) (k : List D → Bool → Option R) (hb : 0 ≤ b) (hb2 : b ≤ 4611686018427387904) (hl : l.length ≤ 1000000) (h : x ≤ b ∨ b + l.length < x) : F56 fu x b t l k = k [D.int 0, D.str { data := #[] }] false := by
  unfold F56
  by_cases h1 : x ≤ b
  · rw [le_true h1]; rfl
  · rw [le_false h1, cond_false, last_ok _ _ _ _ _ hb hb2 hl, lt_true (by omega)]; rfl

theorem get_in (fu : Nat) (i : Nat) (b t : Int) (l : List (List D)) (k : List D → Bool → Option R) (hb : 0 ≤ b) (hb2 : b ≤ 4611686018427387904) (hl : l.length ≤ 1000000) (hi : i < l.length) : F56 fu (b + 1 + i) b t l k = k (elem i l) true := by
  unfold F56
  have e : IntKind.i64.wrap (IntKind.i64.wrap (b + 1 + i - b) - 1) = (i : Int) := by rw [wrap_of (x := b + 1 + i - b) (by omega) (by omega), wrap_of (by omega) (by omega)]; omega
  rw [le_false (by omega), cond_false, last_ok _ _ _ _ _ hb hb2 hl, lt_false (by omega), cond_false, e, within_of hi, cond_true, Int.toNat_natCast]

/-- A term, as the log has it. -/
def termOf (b t : Int) (l : List (List D)) (x : Int) : Int := if x = b then t else (cell 0 (elem (x - b - 1).toNat l)).toInt

theorem pass_out (fu : Nat) (x b t : Int) (l : List (List D)) (k : Int → Int → Int → List (List D) → Option R) (hb : 0 ≤ b) (hb2 : b ≤ 4611686018427387904) (hl : l.length ≤ 1000000) (h : x < b ∨ b + l.length < x) : F54 fu x b t l k = k 1 b t l := by
  unfold F54
  rw [term_out _ _ _ _ _ _ hb hb2 hl h]; rfl

theorem pass_in (fu : Nat) (i : Nat) (b t : Int) (l : List (List D)) (k : Int → Int → Int → List (List D) → Option R) (hb : 0 ≤ b) (hb2 : b ≤ 4611686018427387904) (hl : l.length ≤ 900000) (hi : i ≤ l.length) :
    F54 fu (b + i) b t l k = k 0 (b + i) (termOf b t l (b + i)) (l.drop i) := by
  unfold F54
  have ht : ∀ (kk : Int → Bool → Option R), F43 fu (b + i) b t l kk = kk (termOf b t l (b + i)) true := by
    intro kk
    cases i with
    | zero => rw [show b + ((0 : Nat) : Int) = b by simp, term_base _ _ _ _ _ hb hb2 (by omega)]; simp [termOf]
    | succ i =>
      rw [show b + ((i + 1 : Nat) : Int) = b + 1 + i by push_cast; omega, term_in _ _ _ _ _ _ hb hb2 (by omega) (by omega)]
      unfold termOf
      rw [if_neg (by omega), show (b + 1 + (i : Int) - b - 1).toNat = i by omega]
  rw [ht]
  have e : IntKind.i64.wrap (b + i - b) = (i : Int) := by rw [wrap_of (by omega) (by omega)]; omega
  have h1 : decide ((0 : Int) ≤ (i : Int) ∧ (i : Int) ≤ ofN l.length) = true := decide_eq_true ⟨by omega, by unfold ofN; omega⟩
  have h2 : upTo (ofN l.length) l.length = true := by unfold upTo ofN; exact decide_eq_true ⟨by omega, by simp⟩
  have h3 : part l (i : Int).toNat (ofN l.length).toNat = l.drop i := by unfold ofN part; simp
  rw [e, h1, h2, h3, fits_of (by simp; omega) (by omega)]
  rfl
end Go.Proofs.Ytdoikghgblohjaa.V

/- EntryAdds: what its code computes is true. -/
namespace Go.Proofs.Ytdoikghgblohjaa.V
variable {R : Type}

theorem elem_map (f : List D → List D) (l : List (List D)) {i : Nat} (h : i < l.length) : elem i (l.map f) = f (elem i l) := by
  unfold elem
  simp [List.getD_eq_getElem?_getD, List.getElem?_eq_getElem h]

theorem elem_drop (n : Nat) (l : List (List D)) (i : Nat) : elem i (l.drop n) = elem (n + i) l := by
  unfold elem
  simp [List.getD_eq_getElem?_getD]

theorem take_map_succ (f : List D → List D) (l : List (List D)) {i : Nat} (h : i < l.length) : (l.take i).map f ++ [f (elem i l)] = (l.take (i + 1)).map f := by
  have he : elem i l = l[i] := by unfold elem; rw [List.getD_eq_getElem?_getD, List.getElem?_eq_getElem h]; rfl
  rw [he, List.take_succ_eq_append_getElem h, List.map_append]
  rfl

theorem adds_loop (fu : Nat) (x : List (List D)) (hx : x.length ≤ 60) (k0 k1 : List (List D) → Option R) : ∀ (n i : Nat), x.length + 1 ≤ i + n → i ≤ x.length →
    F12_250 fu x (ofN x.length) 0 0 n (i : Int) ((x.take i).map NE) k0 k1 = k1 (x.map NE) := by
  intro n
  induction n with
  | zero => intro i h1 h2; omega
  | succ n ih =>
    intro i h1 h2
    unfold F12_250
    by_cases hi : i < x.length
    · have hl : ((x.take i).map NE).length = i := by rw [List.length_map, List.length_take]; omega
      rw [lt_true (show (i : Int) < ofN x.length by unfold ofN; omega), cond_true, within_of hi, cond_true, wrap_succ (by omega), Int.toNat_natCast, add_ok _ _ _ _ _ _ (by omega) (by omega) (by rw [hl]; omega)]
      rw [hl, eq_true (show (0 : Int) + i + 1 = ((i + 1 : Nat) : Int) by push_cast; omega), Bool.not_true, cond_false]
      have := take_map_succ NE x hi
      rw [show NE (NE (elem i x)) = NE (elem i x) from rfl, this]
      exact ih (i + 1) (by omega) (by omega)
    · rw [lt_false (show ¬ (i : Int) < ofN x.length by unfold ofN; omega), cond_false]
      rw [show i = x.length by omega, List.take_length]

theorem adds_look (fu : Nat) (l : List (List D)) (hl : l.length ≤ 60) (p : Nat) (hp : p ≤ l.length) (k0 k1 : Option R) : ∀ (n i : Nat), l.length + 3 ≤ i + n → i ≤ l.length + 2 →
    F12_1018 fu l (p : Int) (p : Int) (termOf 0 0 (l.map NE) (p : Int)) ((l.map NE).drop p) n (i : Int) k0 k1 = k1 := by
  intro n
  induction n with
  | zero => intro i h1 h2; omega
  | succ n ih =>
    intro i h1 h2
    have hdl : ((l.map NE).drop p).length = l.length - p := by simp
    unfold F12_1018
    by_cases hi : i ≤ l.length + 1
    · rw [wrap_of (x := ofN l.length + 1) (by unfold ofN; omega) (by unfold ofN; omega), le_true (show (i : Int) ≤ ofN l.length + 1 by unfold ofN; omega), cond_true]
      have hrec := ih (i + 1) (by omega) (by omega)
      by_cases h1 : i ≤ p
      · rw [get_out _ _ _ _ _ _ (by omega) (by omega) (by omega) (.inl (by omega)), lt_false (show ¬ (p : Int) < i by omega)]
        by_cases h3 : i = p
        · subst h3
          rw [term_base _ _ _ _ _ (by omega) (by omega) (by omega), le_true (show (i : Int) ≤ i by omega), le_true (show (i : Int) ≤ ofN l.length by unfold ofN; omega), wrap_succ (by omega)]
          simp only [Bool.not_true, cond_true, cond_false, Bool.not_false]
          by_cases h4 : i = 0
          · subst h4
            simp only [Int.natCast_zero] at hrec ⊢
            simp only [termOf, if_true, decide_true, Bool.not_true, cond_false, decide_false, lt_false (show ¬ (0 : Int) < 0 by omega)]
            exact hrec
          · have hw : IntKind.i64.wrap ((i : Int) - 1) = ((i - 1 : Nat) : Int) := by rw [wrap_of (by omega) (by omega)]; omega
            rw [lt_true (show (0 : Int) < i by omega), cond_true, hw, within_of (by omega), cond_true, Int.toNat_natCast]
            have ht : termOf 0 0 (l.map NE) (i : Int) = (cell 0 (elem (i - 1) l)).toInt := by
              unfold termOf
              rw [if_neg (by omega), show ((i : Int) - 0 - 1).toNat = i - 1 by omega, elem_map NE l (by omega)]; rfl
            rw [ht] at hrec ⊢
            rw [eq_true rfl]
            exact hrec
        · rw [term_out _ _ _ _ _ _ (by omega) (by omega) (by omega) (.inl (by omega)), le_false (show ¬ (p : Int) ≤ i by omega), wrap_succ (by omega)]
          simp only [Bool.not_false, cond_true, cond_false, decide_true, Bool.not_true]
          exact hrec
      · by_cases h3 : i ≤ l.length
        · obtain ⟨j, rfl⟩ : ∃ j, i = p + 1 + j := ⟨i - p - 1, by omega⟩
          have hj : j < ((l.map NE).drop p).length := by rw [hdl]; omega
          have e1 : ((p + 1 + j : Nat) : Int) = (p : Int) + 1 + j := by push_cast; omega
          have he : elem j ((l.map NE).drop p) = NE (elem (p + j) l) := by rw [elem_drop, elem_map NE l (by omega)]
          rw [e1, get_in _ _ _ _ _ _ (by omega) (by omega) (by omega) hj, term_in _ _ _ _ _ _ (by omega) (by omega) (by omega) hj, he]
          have hw : IntKind.i64.wrap ((p : Int) + 1 + j - 1) = ((p + j : Nat) : Int) := by rw [wrap_of (by omega) (by omega)]; omega
          have hw2 : IntKind.i64.wrap ((p : Int) + 1 + j + 1) = ((p + 1 + j + 1 : Nat) : Int) := by rw [wrap_of (by omega) (by omega)]; push_cast; omega
          rw [lt_true (show (p : Int) < p + 1 + j by omega), le_true (show (p : Int) + 1 + j ≤ ofN l.length by unfold ofN; omega), le_true (show (p : Int) ≤ p + 1 + j by omega), hw, hw2, within_of (by omega), Int.toNat_natCast, lt_true (show (0 : Int) < p + 1 + j by omega)]
          have q1 : (cell 0 (NE (elem (p + j) l))).toInt = (cell 0 (elem (p + j) l)).toInt := rfl
          have q2 : (cell 1 (NE (elem (p + j) l))).toStr = (cell 1 (elem (p + j) l)).toStr := rfl
          simp only [q1, q2, strEq_refl, decide_true, Bool.and_self, Bool.not_true, cond_true, cond_false, beq_self_eq_true, Bool.false_eq_true]
          exact hrec
        · rw [get_out _ _ _ _ _ _ (by omega) (by omega) (by omega) (.inr (by omega)), term_out _ _ _ _ _ _ (by omega) (by omega) (by omega) (.inr (by omega))]
          rw [lt_true (show (p : Int) < i by omega), le_false (show ¬ (i : Int) ≤ ofN l.length by unfold ofN; omega), le_true (show (p : Int) ≤ i by omega), wrap_succ (by omega)]
          simp only [Bool.not_false, cond_true, cond_false, decide_true, Bool.not_true, beq_self_eq_true]
          exact hrec
    · rw [wrap_of (x := ofN l.length + 1) (by unfold ofN; omega) (by unfold ofN; omega), le_false (show ¬ (i : Int) ≤ ofN l.length + 1 by unfold ofN; omega), cond_false]

theorem adds12 (l : List (List D)) (pass : Int) : F12 1000 l pass (fun o => some o) = some true := by
  unfold F12
  have aw : ∀ (k : Option Bool), F39 1000 k = k := fun k => rfl
  simp only [aw]
  by_cases h1 : (60 : Int) < ofN l.length
  · rw [lt_true h1]; rfl
  · rw [lt_false h1, cond_false]
    have hl : l.length ≤ 60 := by unfold ofN at h1; omega
    unfold F40
    simp only [show (if (0 : Int) > 0 then (0 : Int) else 0) = 0 from rfl]
    refine (adds_loop 1000 l hl _ _ 1000 0 (by omega) (by omega)).trans ?_
    have hml : (l.map NE).length = l.length := by simp
    by_cases hp : pass < 0 ∨ (l.length : Int) < pass
    · rw [pass_out _ _ _ _ _ _ (by omega) (by omega) (by omega) (by omega)]
      unfold F55
      simp only [show decide ((1 : Int) = 0) = false from rfl, Bool.not_false, cond_true, decide_true]
      rcases hp with hp | hp
      · rw [lt_true hp]; rfl
      · by_cases hp2 : pass < 0
        · rw [lt_true hp2]; rfl
        · rw [lt_false hp2, cond_false, lt_true (show ofN l.length < pass from hp)]; rfl
    · obtain ⟨p, rfl⟩ : ∃ p : Nat, pass = (p : Int) := ⟨pass.toNat, by omega⟩
      have := pass_in (R := Bool) 1000 p 0 0 (l.map NE)
      simp only [Int.zero_add] at this
      rw [this _ (by omega) (by omega) (by omega) (by omega)]
      simp only [decide_true, Bool.not_true, cond_false]
      refine (adds_look 1000 l hl p (by omega) _ _ 1000 0 (by omega) (by omega)).trans ?_
      unfold F55
      rw [cond_true, last_ok _ _ _ _ _ (by omega) (by omega) (by simp; omega)]
      rw [eq_true (show (p : Int) + ((l.map NE).drop p).length = ofN l.length by unfold ofN; simp; omega)]
      rfl
end Go.Proofs.Ytdoikghgblohjaa.V

/- entry: merging, passing, the document's log beside the program's. -/
namespace Go.Proofs.Ytdoikghgblohjaa.V
variable {R : Type}

theorem upTo_of {i : Int} {n : Nat} (h0 : 0 ≤ i) (h : i ≤ n) : upTo i n = true := by
  unfold upTo; exact decide_eq_true ⟨h0, by omega⟩

theorem part_take (l : List (List D)) (n : Nat) : part l 0 n = l.take n := by simp [part]
theorem part_drop (l : List (List D)) (n : Nat) : part l n l.length = l.drop n := by simp [part]

theorem drop_elem {l : List (List D)} {i : Nat} (h : i < l.length) : l.drop i = elem i l :: l.drop (i + 1) := by
  have he : elem i l = l[i] := by unfold elem; rw [List.getD_eq_getElem?_getD, List.getElem?_eq_getElem h]; rfl
  rw [he]; exact List.drop_eq_getElem_cons h

theorem cl0 (b t : Int) (l : List (List D)) : (cell 0 [D.int b, D.int t, D.row l]).toInt = b := of_eq_true (eq_self _)
theorem cl1 (b t : Int) (l : List (List D)) : (cell 1 [D.int b, D.int t, D.row l]).toInt = t := of_eq_true (eq_self _)
theorem cl2 (b t : Int) (l : List (List D)) : (cell 2 [D.int b, D.int t, D.row l]).toRows = l := of_eq_true (eq_self _)

theorem term_ok (fu : Nat) (x b t : Int) (l : List (List D)) (k : Int → Bool → Option R) (hb : 0 ≤ b) (hb2 : b ≤ 4611686018427387904) (hl : l.length ≤ 1000000) (h0 : b ≤ x) (h1 : x ≤ b + l.length) :
    F43 fu x b t l k = k (termOf b t l x) true := by
  obtain ⟨i, rfl⟩ : ∃ i : Nat, x = b + i := ⟨(x - b).toNat, by omega⟩
  cases i with
  | zero => rw [show b + ((0 : Nat) : Int) = b by simp, term_base _ _ _ _ _ hb hb2 hl]; simp [termOf]
  | succ i =>
    rw [show b + ((i + 1 : Nat) : Int) = b + 1 + i by push_cast; omega, term_in _ _ _ _ _ _ hb hb2 hl (by omega)]
    unfold termOf
    rw [if_neg (by omega), show (b + 1 + (i : Int) - b - 1).toNat = i by omega]

theorem rlast_ok (fu : Nat) (b t : Int) (l : List (List D)) (k : Int → Option R) (hb : 0 ≤ b) (hb2 : b ≤ 4611686018427387904) (hl : l.length ≤ 1000000) : F69 fu [D.int b, D.int t, D.row l] k = k (b + l.length) := by
  unfold F69
  rw [cl0, cl2, wrap_of (by unfold ofN; omega) (by unfold ofN; omega)]; rfl

theorem rterm_ok (fu : Nat) (x b t : Int) (l : List (List D)) (k : Int → Bool → Option R) (hb : 0 ≤ b) (hb2 : b ≤ 4611686018427387904) (hl : l.length ≤ 1000000) (h0 : b ≤ x) (h1 : x ≤ b + l.length) :
    F74 fu [D.int b, D.int t, D.row l] x k = k (termOf b t l x) true := by
  unfold F74
  simp only [cl0, cl1, cl2]
  by_cases h : x = b
  · rw [eq_true h, cond_true]; unfold termOf; rw [if_pos h]
  · have e : IntKind.i64.wrap (IntKind.i64.wrap (x - b) - 1) = x - b - 1 := by rw [wrap_of (x := x - b) (by omega) (by omega), wrap_of (by omega) (by omega)]
    rw [eq_false h, cond_false, lt_false (by omega), cond_false, rlast_ok _ _ _ _ _ hb hb2 hl, lt_false (by omega), cond_false, e, within_int (by omega) (by omega), cond_true]
    unfold termOf; rw [if_neg h]

theorem rterm_out (fu : Nat) (x b t : Int) (l : List (List D)) (k : Int → Bool → Option R) (hb : 0 ≤ b) (hb2 : b ≤ 4611686018427387904) (hl : l.length ≤ 1000000) (h : x < b ∨ b + l.length < x) :
    F74 fu [D.int b, D.int t, D.row l] x k = k 0 false := by
  unfold F74
  simp only [cl0, cl1, cl2]
  rw [eq_false (by omega), cond_false]
  by_cases h1 : x < b
  · rw [lt_true h1]; rfl
  · rw [lt_false h1, cond_false, rlast_ok _ _ _ _ _ hb hb2 hl, lt_true (by omega)]; rfl

/-- Entries that come, from a place on. -/
def mergeL : Nat → List (List D) → List (List D) → List (List D)
  | _, [], out => out
  | p, e :: more, out => if p < out.length ∧ (cell 0 (elem p out)).toInt = (cell 0 e).toInt then mergeL (p + 1) more out else mergeL (p + 1) more (out.take p ++ [NE e])

theorem mergeL_len : ∀ (more : List (List D)) (p : Nat) (out : List (List D)), (mergeL p more out).length ≤ max out.length (p + more.length)
  | [], p, out => by unfold mergeL; omega
  | e :: more, p, out => by
    unfold mergeL
    simp only [List.length_cons]
    split
    · have := mergeL_len more (p + 1) out; omega
    · have := mergeL_len more (p + 1) (out.take p ++ [NE e])
      simp only [List.length_append, List.length_take, List.length_singleton] at this
      omega

theorem mergeL_map : ∀ (more : List (List D)) (p : Nat) (out : List (List D)), mergeL p (more.map NE) out = mergeL p more out
  | [], p, out => rfl
  | e :: more, p, out => by
    rw [List.map_cons]
    unfold mergeL
    rw [mergeL_map more, mergeL_map more]
    rfl

theorem rmerge_loop (fu : Nat) (b : Int) (p : Nat) (more : List (List D)) (hb : 0 ≤ b) (hb2 : b ≤ 4611686018427387904) (hm : p + more.length ≤ 900000) (k : List (List D) → Option R) : ∀ (n i : Nat) (out : List (List D)), more.length + 1 ≤ i + n → i ≤ more.length → out.length ≤ 900000 →
    F70_1018 fu (b + p) more b n (i : Int) out k = k (mergeL (p + i) (more.drop i) out) := by
  intro n
  induction n with
  | zero => intro i out h1 h2; omega
  | succ n ih =>
    intro i out h1 h2 h3
    unfold F70_1018
    by_cases hi : i < more.length
    · have hw : IntKind.i64.wrap (IntKind.i64.wrap (b + p - b) + i) = ((p + i : Nat) : Int) := by
        rw [wrap_of (x := b + p - b) (by omega) (by omega), wrap_of (by omega) (by omega)]; push_cast; omega
      have hlt : decide ((i : Int) < ofN more.length) = true := lt_true (by unfold ofN; omega)
      rw [drop_elem hi]
      simp only [hw, hlt, cond_true, within_of hi, Int.toNat_natCast, wrap_succ (show i ≤ 9223372036854775806 by omega)]
      unfold mergeL
      by_cases h4 : p + i < out.length
      · have hl2 : decide (((p + i : Nat) : Int) < ofN out.length) = true := lt_true (by unfold ofN; omega)
        simp only [hl2, cond_true, within_of h4]
        by_cases h5 : (cell 0 (elem (p + i) out)).toInt = (cell 0 (elem i more)).toInt
        · rw [eq_true h5, cond_true, if_pos ⟨h4, h5⟩]
          have := ih (i + 1) out (by omega) (by omega) h3
          rw [this]; rfl
        · have hz : decide ((0 : Int) ≤ 0 ∧ (0 : Int) ≤ ((p + i : Nat) : Int)) = true := decide_eq_true ⟨by omega, by omega⟩
          rw [eq_false h5, cond_false, if_neg (fun h => h5 h.2)]
          have ht : (out.take (p + i)).length = p + i := by rw [List.length_take]; omega
          simp only [hz, upTo_of (show (0 : Int) ≤ ((p + i : Nat) : Int) by omega) (show ((p + i : Nat) : Int) ≤ (out.length : Int) by omega), Bool.and_self, cond_true, part_take, ht, fits_of (show 0 + (p + i) ≤ 1000000 by omega) (show 24 ≤ 1000 by omega), fits_of (show p + i + 1 ≤ 1000000 by omega) (show 24 ≤ 1000 by omega)]
          have := ih (i + 1) (out.take (p + i) ++ [NE (elem i more)]) (by omega) (by omega) (by rw [List.length_append, ht, List.length_singleton]; omega)
          exact this
      · have hl2 : decide (((p + i : Nat) : Int) < ofN out.length) = false := lt_false (by unfold ofN; omega)
        simp only [hl2, cond_false]
        rw [if_neg (fun h => h4 h.1), fits_of (by omega) (by omega), cond_true, List.take_of_length_le (by omega)]
        by_cases h6 : p + i ≤ out.length + 900000
        · exact ih (i + 1) (out ++ [NE (elem i more)]) (by omega) (by omega) (by rw [List.length_append, List.length_singleton]; omega)
        · omega
    · have hlt : decide ((i : Int) < ofN more.length) = false := lt_false (by unfold ofN; omega)
      rw [hlt, cond_false, show i = more.length by omega, List.drop_length]
      rfl

theorem merge_loop (fu : Nat) (b t : Int) (p : Nat) (x : List (List D)) (hb : 0 ≤ b) (hb2 : b ≤ 1000000000) (hm : p + x.length ≤ 900000) (k : List (List D) → Option R) : ∀ (n i : Nat) (out : List (List D)), x.length + 1 ≤ i + n → i ≤ x.length → out.length ≤ 900000 →
    F58_250 fu (b + p) x (ofN x.length) b t n (i : Int) out k = k (mergeL (p + i) (x.drop i) out) := by
  intro n
  induction n with
  | zero => intro i out h1 h2; omega
  | succ n ih =>
    intro i out h1 h2 h3
    unfold F58_250
    by_cases hi : i < x.length
    · have hw : IntKind.i64.wrap (IntKind.i64.wrap (b + p + 1) + i) = b + 1 + ((p + i : Nat) : Int) := by
        rw [wrap_of (x := b + p + 1) (by omega) (by omega), wrap_of (by omega) (by omega)]; push_cast; omega
      have hw2 : IntKind.i64.wrap (IntKind.i64.wrap (b + 1 + ((p + i : Nat) : Int) - b) - 1) = ((p + i : Nat) : Int) := by
        rw [wrap_of (x := b + 1 + ((p + i : Nat) : Int) - b) (by omega) (by omega), wrap_of (by omega) (by omega)]; omega
      have hmin : (if ofN out.length < ((p + i : Nat) : Int) then ofN out.length else ((p + i : Nat) : Int)) = ((min out.length (p + i) : Nat) : Int) := by
        unfold ofN; split <;> omega
      have hlt : decide ((i : Int) < ofN x.length) = true := lt_true (by unfold ofN; omega)
      have hz : decide ((0 : Int) ≤ 0 ∧ (0 : Int) ≤ ((min out.length (p + i) : Nat) : Int)) = true := decide_eq_true ⟨by omega, by omega⟩
      have hu : upTo ((min out.length (p + i) : Nat) : Int) out.length = true := upTo_of (by omega) (by omega)
      have htk : out.take (min out.length (p + i)) = out.take (p + i) := by
        by_cases h : p + i ≤ out.length
        · rw [Nat.min_eq_right h]
        · rw [Nat.min_eq_left (by omega), List.take_of_length_le (Nat.le_refl _), List.take_of_length_le (by omega)]
      have hln : (out.take (p + i)).length ≤ p + i := by rw [List.length_take]; omega
      have hadd : ∀ kk : Int → List (List D) → Option R, F53 fu [D.int (cell 0 (elem i x)).toInt, D.str (cell 1 (elem i x)).toStr] b t (out.take (p + i)) kk = kk (b + (out.take (p + i)).length + 1) (out.take (p + i) ++ [NE (elem i x)]) :=
        fun kk => add_ok fu _ b t _ kk hb (by omega) (by omega)
      have hnext := ih (i + 1) (out.take (p + i) ++ [NE (elem i x)]) (by omega) (by omega) (by rw [List.length_append, List.length_singleton]; omega)
      rw [drop_elem hi]
      simp only [hw, hw2, hmin, hlt, hz, hu, cond_true, within_of hi, Int.toNat_natCast, wrap_succ (show i ≤ 9223372036854775806 by omega), Bool.and_self, part_take, htk, hadd]
      unfold mergeL
      by_cases h4 : p + i < out.length
      · rw [term_in _ _ _ _ _ _ hb (by omega) (by omega) h4, cond_true]
        by_cases h5 : (cell 0 (elem (p + i) out)).toInt = (cell 0 (elem i x)).toInt
        · rw [eq_true h5, cond_true, if_pos ⟨h4, h5⟩]
          exact ih (i + 1) out (by omega) (by omega) h3
        · rw [eq_false h5, cond_false, if_neg (fun h => h5 h.2)]
          exact hnext
      · rw [term_out _ _ _ _ _ _ hb (by omega) (by omega) (.inr (by omega)), cond_false, if_neg (fun h => h4 h.1)]
        exact hnext
    · have hlt : decide ((i : Int) < ofN x.length) = false := lt_false (by unfold ofN; omega)
      rw [hlt, cond_false, show i = x.length by omega, List.drop_length]
      rfl

/-- What Merge makes of a log. -/
def mergeR (b t : Int) (l : List (List D)) (a tm : Int) (more : List (List D)) : Int × Bool × List (List D) :=
  if a < b then (if (more.length : Int) ≤ b - a then (a + more.length, true, l) else (a + more.length, true, mergeL 0 (more.drop (b - a).toNat) l))
  else if b + l.length < a then (0, false, l) else if termOf b t l a = tm then (a + more.length, true, mergeL (a - b).toNat more l) else (0, false, l)

theorem mergeR_map (b t : Int) (l : List (List D)) (a tm : Int) (more : List (List D)) : mergeR b t l a tm (more.map NE) = mergeR b t l a tm more := by
  unfold mergeR
  rw [List.length_map, ← List.map_drop, mergeL_map, mergeL_map]

theorem merge_in (fu n : Nat) (a tm b t : Int) (l more : List (List D)) (k : Int → Bool → List (List D) → Option R) (hb : 0 ≤ b) (hb2 : b ≤ 1000000000) (hl : l.length ≤ 10000) (hm : more.length ≤ 10000) (hab : b ≤ a) (ha2 : a ≤ 1099511627776) (hf : more.length + 1 ≤ fu) :
    F58 fu (n + 1) a tm more b t l k = k (mergeR b t l a tm more).1 (mergeR b t l a tm more).2.1 (mergeR b t l a tm more).2.2 := by
  unfold F58 mergeR
  rw [lt_false (show ¬ a < 0 by omega), cond_false, lt_false (show ¬ a < b by omega), cond_false, if_neg (show ¬ a < b by omega)]
  by_cases h1 : b + l.length < a
  · rw [term_out _ _ _ _ _ _ hb (by omega) (by omega) (.inr h1), if_pos h1]; rfl
  · rw [term_ok _ _ _ _ _ _ hb (by omega) (by omega) hab (by omega), if_neg h1, Bool.not_true, cond_false]
    by_cases h2 : termOf b t l a = tm
    · rw [eq_true h2, Bool.not_true, cond_false, if_pos h2]
      have := merge_loop fu b t (a - b).toNat more hb hb2 (by omega) (fun o_5 => k (IntKind.i64.wrap (a + ofN more.length)) true o_5) fu 0 l (by omega) (by omega) (by omega)
      rw [show b + ((a - b).toNat : Int) = a by omega] at this
      refine this.trans ?_
      rw [wrap_of (by unfold ofN; omega) (by unfold ofN; omega)]; rfl
    · rw [eq_false h2, Bool.not_false, cond_true, if_neg h2]

theorem merge_ok (fu n : Nat) (a tm b t : Int) (l more : List (List D)) (k : Int → Bool → List (List D) → Option R) (hb : 0 ≤ b) (hb2 : b ≤ 1000000000) (hl : l.length ≤ 10000) (hm : more.length ≤ 10000) (ha : 0 ≤ a) (ha2 : a ≤ 1099511627776) (hf : more.length + 1 ≤ fu) :
    F58 fu (n + 2) a tm more b t l k = k (mergeR b t l a tm more).1 (mergeR b t l a tm more).2.1 (mergeR b t l a tm more).2.2 := by
  by_cases hab : b ≤ a
  · exact merge_in fu (n + 1) a tm b t l more k hb hb2 hl hm hab ha2 hf
  · unfold F58 mergeR
    have hw : IntKind.i64.wrap (b - a) = b - a := wrap_of (by omega) (by omega)
    rw [lt_false (show ¬ a < 0 by omega), cond_false, lt_true (show a < b by omega), cond_true, if_pos (show a < b by omega), hw]
    by_cases h1 : (more.length : Int) ≤ b - a
    · rw [le_true (show ofN more.length ≤ b - a from h1), cond_true, if_pos h1, wrap_of (by unfold ofN; omega) (by unfold ofN; omega)]; rfl
    · have hz : decide ((0 : Int) ≤ b - a ∧ b - a ≤ ofN more.length) = true := decide_eq_true ⟨by omega, by unfold ofN; omega⟩
      have hp : part more (b - a).toNat (ofN more.length).toNat = more.drop (b - a).toNat := by unfold ofN; rw [Int.toNat_natCast]; exact part_drop _ _
      rw [le_false (show ¬ ofN more.length ≤ b - a from h1), cond_false, if_neg h1, hz, upTo_of (by unfold ofN; omega) (by unfold ofN; omega), Bool.and_self, cond_true, hp]
      have hdl : (more.drop (b - a).toNat).length = more.length - (b - a).toNat := List.length_drop
      rw [merge_in fu n b t b t l _ _ hb hb2 hl (by omega) (by omega) (by omega) (by omega)]
      unfold mergeR
      rw [if_neg (show ¬ b < b by omega), if_neg (show ¬ b + (l.length : Int) < b by omega), if_pos (show termOf b t l b = t by unfold termOf; rw [if_pos rfl]), hdl, show (b - b).toNat = 0 by omega]
      show k (b + ((more.length - (b - a).toNat : Nat) : Int)) true _ = _
      rw [show b + ((more.length - (b - a).toNat : Nat) : Int) = a + more.length by omega]

theorem merge_neg (fu n : Nat) (a tm b t : Int) (l more : List (List D)) (k : Int → Bool → List (List D) → Option R) (ha : a < 0) : F58 fu (n + 1) a tm more b t l k = k 0 false l := by
  unfold F58
  rw [lt_true ha]; rfl

theorem rmerge_ok (fu : Nat) (a tm b t : Int) (l more : List (List D)) (k : List D → Int → Bool → Option R) (hb : 0 ≤ b) (hb2 : b ≤ 1000000000) (hl : l.length ≤ 10000) (hm : more.length ≤ 10000) (ha : 0 ≤ a) (ha2 : a ≤ 1099511627776) (hf : more.length + 1 ≤ fu) :
    F70 fu [D.int b, D.int t, D.row l] a tm more k = k [D.int b, D.int t, D.row (mergeR b t l a tm more).2.2] (mergeR b t l a tm more).1 (mergeR b t l a tm more).2.1 := by
  unfold F70 mergeR
  simp only [cl0, cl1, cl2]
  have hwl : IntKind.i64.wrap (a + ofN more.length) = a + more.length := by rw [wrap_of (by unfold ofN; omega) (by unfold ofN; omega)]; rfl
  have hfit : fits (0 + l.length) 24 = true := fits_of (by omega) (by omega)
  rw [hwl, hfit]
  by_cases hab : a < b
  · have hw : IntKind.i64.wrap (b - a) = b - a := wrap_of (by omega) (by omega)
    rw [lt_true hab, cond_true, if_pos hab, hw]
    by_cases h1 : (more.length : Int) ≤ b - a
    · rw [le_true (show ofN more.length ≤ b - a from h1), cond_true, if_pos h1]
    · have hz : decide ((0 : Int) ≤ b - a ∧ b - a ≤ ofN more.length) = true := decide_eq_true ⟨by omega, by unfold ofN; omega⟩
      have hp : part more (b - a).toNat (ofN more.length).toNat = more.drop (b - a).toNat := by unfold ofN; rw [Int.toNat_natCast]; exact part_drop _ _
      have hdl : (more.drop (b - a).toNat).length = more.length - (b - a).toNat := List.length_drop
      rw [le_false (show ¬ ofN more.length ≤ b - a from h1), cond_false, if_neg h1, hz, upTo_of (by unfold ofN; omega) (by unfold ofN; omega), Bool.and_self, cond_true, hp]
      rw [rterm_ok _ _ _ _ _ _ hb (by omega) (by omega) (by omega) (by omega)]
      rw [show termOf b t l b = t by unfold termOf; rw [if_pos rfl]]
      simp only [Bool.not_true, cond_false, eq_true rfl, cond_true]
      have := rmerge_loop fu b 0 (more.drop (b - a).toNat) hb (by omega) (by omega) (fun o_2 => k [D.int b, D.int t, D.row o_2] (a + more.length) true) fu 0 l (by omega) (by omega) (by omega)
      simp only [Int.natCast_zero, Int.add_zero, Nat.add_zero, List.drop_zero] at this
      exact this
  · rw [lt_false hab, cond_false, if_neg hab]
    by_cases h1 : b + l.length < a
    · rw [rterm_out _ _ _ _ _ _ hb (by omega) (by omega) (.inr h1), if_pos h1]; rfl
    · rw [rterm_ok _ _ _ _ _ _ hb (by omega) (by omega) (by omega) (by omega), if_neg h1, Bool.not_true, cond_false]
      by_cases h2 : termOf b t l a = tm
      · rw [eq_true h2, Bool.not_true, cond_false, cond_true, if_pos h2]
        have := rmerge_loop fu b (a - b).toNat more hb (by omega) (by omega) (fun o_2 => k [D.int b, D.int t, D.row o_2] (a + more.length) true) fu 0 l (by omega) (by omega) (by omega)
        rw [show b + ((a - b).toNat : Int) = a by omega] at this
        exact this
      · rw [eq_false h2, Bool.not_false, cond_true, if_neg h2]

theorem of_loop (fu : Nat) (x : List (List D)) (hx : x.length ≤ 900000) (k : List (List D) → Option R) : ∀ (n i : Nat), x.length + 1 ≤ i + n → i ≤ x.length →
    F59_58 fu x (ofN x.length) n (i : Int) ((x.take i).map NE) k = k (x.map NE) := by
  intro n
  induction n with
  | zero => intro i h1 h2; omega
  | succ n ih =>
    intro i h1 h2
    unfold F59_58
    by_cases hi : i < x.length
    · have hl : ((x.take i).map NE).length = i := by rw [List.length_map, List.length_take]; omega
      rw [lt_true (show (i : Int) < ofN x.length by unfold ofN; omega), cond_true, within_of hi, cond_true, hl, fits_of (by omega) (by omega), cond_true, wrap_succ (by omega), Int.toNat_natCast]
      have := take_map_succ NE x hi
      have h3 := ih (i + 1) (by omega) (by omega)
      rw [← this] at h3
      exact h3
    · rw [lt_false (show ¬ (i : Int) < ofN x.length by unfold ofN; omega), cond_false]
      rw [show i = x.length by omega, List.take_length]

theorem of_ok (fu : Nat) (x : List (List D)) (hx : x.length ≤ 900000) (hf : x.length + 1 ≤ fu) (k : List (List D) → Option R) : F59 fu x k = k (x.map NE) := by
  unfold F59
  exact of_loop fu x hx _ fu 0 (by omega) (by omega)

theorem rpass_out (fu : Nat) (x b t : Int) (l : List (List D)) (k : List D → Int → Option R) (hb : 0 ≤ b) (hb2 : b ≤ 4611686018427387904) (hl : l.length ≤ 1000000) (h : x < b ∨ b + l.length < x) : F71 fu [D.int b, D.int t, D.row l] x k = k [D.int b, D.int t, D.row l] 1 := by
  unfold F71
  simp only [cl0, cl1, cl2]
  rw [rterm_out _ _ _ _ _ _ hb hb2 hl h]; rfl

theorem rpass_in (fu : Nat) (i : Nat) (b t : Int) (l : List (List D)) (k : List D → Int → Option R) (hb : 0 ≤ b) (hb2 : b ≤ 4611686018427387904) (hl : l.length ≤ 900000) (hi : i ≤ l.length) :
    F71 fu [D.int b, D.int t, D.row l] (b + i) k = k [D.int (b + i), D.int (termOf b t l (b + i)), D.row (l.drop i)] 0 := by
  unfold F71
  simp only [cl0, cl1, cl2]
  rw [rterm_ok _ _ _ _ _ _ hb hb2 (by omega) (by omega) (by omega)]
  have e : IntKind.i64.wrap (b + i - b) = (i : Int) := by rw [wrap_of (by omega) (by omega)]; omega
  have h1 : decide ((0 : Int) ≤ (i : Int) ∧ (i : Int) ≤ ofN l.length) = true := decide_eq_true ⟨by omega, by unfold ofN; omega⟩
  have h3 : part l (i : Int).toNat (ofN l.length).toNat = l.drop i := by unfold ofN; rw [Int.toNat_natCast, Int.toNat_natCast]; exact part_drop _ _
  rw [e, h1, h3, upTo_of (by unfold ofN; omega) (by unfold ofN; omega)]
  rfl

theorem adds2_loop (fu : Nat) (b t : Int) (x : List (List D)) (hb : 0 ≤ b) (hb2 : b ≤ 1000000000) (hx : x.length ≤ 10000) (k0 k1 : List (List D) → List (List D) → Option R) : ∀ (n i : Nat) (l : List (List D)), x.length + 1 ≤ i + n → i ≤ x.length → l.length + (x.length - i) ≤ 100000 →
    F42_426 fu x (ofN x.length) b t b t n (i : Int) l l k0 k1 = k1 (l ++ (x.drop i).map NE) (l ++ (x.drop i).map NE) := by
  intro n
  induction n with
  | zero => intro i l h1 h2; omega
  | succ n ih =>
    intro i l h1 h2 h3
    unfold F42_426
    by_cases hi : i < x.length
    · rw [lt_true (show (i : Int) < ofN x.length by unfold ofN; omega), cond_true, within_of hi, cond_true, fits_of (by omega) (by omega), cond_true, fits_of (by omega) (by omega), cond_true, Int.toNat_natCast, add_ok _ _ _ _ _ _ hb (by omega) (by omega)]
      rw [rlast_ok _ _ _ _ _ hb (by omega) (by simp only [List.length_append, List.length_singleton]; omega)]
      rw [eq_true (show b + (l.length : Int) + 1 = b + ((l ++ [[D.int (cell 0 (elem i x)).toInt, D.str (cell 1 (elem i x)).toStr]]).length : Int) by simp only [List.length_append, List.length_singleton]; push_cast; omega), Bool.not_true, cond_false, wrap_succ (by omega)]
      have := ih (i + 1) (l ++ [NE (elem i x)]) (by omega) (by omega) (by simp only [List.length_append, List.length_singleton]; omega)
      have hac : ∀ ys : List (List D), l ++ NE (elem i x) :: ys = l ++ [NE (elem i x)] ++ ys := fun ys => by rw [List.append_assoc]; rfl
      rw [drop_elem hi, List.map_cons, hac ((x.drop (i + 1)).map NE)]
      exact this
    · rw [lt_false (show ¬ (i : Int) < ofN x.length by unfold ofN; omega), cond_false]
      rw [show i = x.length by omega, List.drop_length, List.map_nil, List.append_nil]

/-- A call leaves both logs alike. -/
theorem does_ok (fu : Nat) (o : List D) (b t : Int) (l : List (List D)) (m : Nat) (hfu : 1000 ≤ fu) (h0 : 0 ≤ b) (h1 : b + l.length ≤ m) (hm : m + (cell 3 o).toRows.length ≤ 400) (ha : -1099511627776 ≤ (cell 1 o).toInt) (ha2 : (cell 1 o).toInt ≤ 1099511627776) :
    ∃ (b' t' : Int) (l' : List (List D)) (f : Bool), 0 ≤ b' ∧ b' + l'.length ≤ ((m + (cell 3 o).toRows.length : Nat) : Int) ∧
      ∀ (R : Type) (k : List D → Bool → Int → Int → List (List D) → Option R), F42 fu [D.int b, D.int t, D.row l] o b t l k = k [D.int b', D.int t', D.row l'] f b' t' l' := by
  obtain ⟨fu, rfl⟩ : ∃ n, fu = n + 2 := ⟨fu - 2, by omega⟩
  by_cases k0 : (cell 0 o).toInt = 0
  · refine ⟨b, t, l ++ (cell 3 o).toRows.map NE, true, h0, by simp only [List.length_append, List.length_map]; push_cast; omega, fun R k => ?_⟩
    unfold F42
    rw [eq_true k0, cond_true]
    simp only [cl0, cl1, cl2]
    have := adds2_loop (fu + 2) b t (cell 3 o).toRows h0 (by omega) (by omega) (fun o_0 o_1 => k [D.int b, D.int t, D.row o_1] false b t o_0) (fun o_2 o_3 => k [D.int b, D.int t, D.row o_3] true b t o_2) (fu + 2) 0 l (by omega) (by omega) (by omega)
    exact this
  · by_cases k1 : (cell 0 o).toInt = 1
    · by_cases hneg : (cell 1 o).toInt < 0
      · refine ⟨b, t, l, true, h0, by push_cast; omega, fun R k => ?_⟩
        unfold F42
        rw [eq_false k0, cond_false, eq_true k1, cond_true, lt_true hneg, cond_true, last_ok _ _ _ _ _ h0 (by omega) (by omega), of_ok _ _ (by omega) (by omega), merge_neg _ _ _ _ _ _ _ _ _ hneg]
        rw [Bool.not_false, cond_true, last_ok _ _ _ _ _ h0 (by omega) (by omega), eq_true rfl]
      · refine ⟨b, t, (mergeR b t l (cell 1 o).toInt (cell 2 o).toInt (cell 3 o).toRows).2.2, true, h0, ?_, fun R k => ?_⟩
        · have q : (mergeR b t l (cell 1 o).toInt (cell 2 o).toInt (cell 3 o).toRows).2.2.length ≤ l.length + (cell 3 o).toRows.length := by
            unfold mergeR
            split
            · split
              · simp
              · have := mergeL_len ((cell 3 o).toRows.drop (b - (cell 1 o).toInt).toNat) 0 l
                simp only [List.length_drop] at this
                simp only
                omega
            · split
              · simp
              · split
                · have := mergeL_len (cell 3 o).toRows ((cell 1 o).toInt - b).toNat l
                  simp only
                  omega
                · simp
          push_cast; omega
        · unfold F42
          rw [eq_false k0, cond_false, eq_true k1, cond_true, lt_false hneg, cond_false]
          simp only [cl0, cl1, cl2]
          rw [rmerge_ok _ _ _ _ _ _ _ _ h0 (by omega) (by omega) (by omega) (by omega) (by omega) (by omega), of_ok _ _ (by omega) (by omega), merge_ok _ _ _ _ _ _ _ _ _ h0 (by omega) (by omega) (by rw [List.length_map]; omega) (by omega) (by omega) (by rw [List.length_map]; omega), mergeR_map]
          rw [eq_true rfl, cond_true, beq_self_eq_true]
    · by_cases k2 : (cell 0 o).toInt = 2
      · by_cases hp : (cell 1 o).toInt < b ∨ b + l.length < (cell 1 o).toInt
        · refine ⟨b, t, l, true, h0, by push_cast; omega, fun R k => ?_⟩
          unfold F42
          rw [eq_false k0, cond_false, eq_false k1, cond_false, eq_true k2, cond_true]
          simp only [cl0, cl1, cl2]
          rw [rpass_out _ _ _ _ _ _ h0 (by omega) (by omega) hp, pass_out _ _ _ _ _ _ h0 (by omega) (by omega) hp]
          rfl
        · obtain ⟨i, hi⟩ : ∃ i : Nat, (cell 1 o).toInt = b + i := ⟨((cell 1 o).toInt - b).toNat, by omega⟩
          refine ⟨b + i, termOf b t l (b + i), l.drop i, true, by omega, by rw [List.length_drop]; push_cast; omega, fun R k => ?_⟩
          unfold F42
          rw [eq_false k0, cond_false, eq_false k1, cond_false, eq_true k2, cond_true]
          simp only [cl0, cl1, cl2, hi]
          rw [rpass_in _ _ _ _ _ _ h0 (by omega) (by omega) (by omega), pass_in _ _ _ _ _ _ h0 (by omega) (by omega) (by omega)]
          rfl
      · refine ⟨b, t, l, true, h0, by push_cast; omega, fun R k => ?_⟩
        unfold F42
        rw [eq_false k0, cond_false, eq_false k1, cond_false, eq_false k2, cond_false]

/-- How many entries calls have. -/
def lens (l : List (List D)) : Nat := (l.map fun o => (cell 3 o).toRows.length).sum

theorem few_loop (fu : Nat) (l : List (List D)) (hw : ∀ o ∈ l, (cell 3 o).toRows.length ≤ 140737488355328) : ∀ (n i : Nat), 62 ≤ i + n → i ≤ 61 → i ≤ l.length → (∀ o ∈ l.take i, -1099511627776 ≤ (cell 1 o).toInt ∧ (cell 1 o).toInt ≤ 1099511627776) → lens (l.take i) ≤ i * 140737488355328 →
    ∃ (s : Int) (f : Bool), (f = true → s = lens (l.take 61) ∧ ∀ o ∈ l.take 61, -1099511627776 ≤ (cell 1 o).toInt ∧ (cell 1 o).toInt ≤ 1099511627776) ∧ ∀ (R : Type) (k0 k1 : Int → Option R), F38_58 fu l n (lens (l.take i)) i k0 k1 = bif f then k1 s else k0 s := by
  intro n
  induction n with
  | zero => intro i h1 h2; omega
  | succ n ih =>
    intro i h1 h2 h3 hall hs
    by_cases hi : i < l.length
    · by_cases h60 : i ≤ 60
      · have hlen := hw _ (elem_mem hi)
        have hsum : lens (l.take (i + 1)) = lens (l.take i) + (cell 3 (elem i l)).toRows.length := by
          have he : elem i l = l[i] := by unfold elem; rw [List.getD_eq_getElem?_getD, List.getElem?_eq_getElem hi]; rfl
          unfold lens
          rw [List.take_succ_eq_append_getElem hi, List.map_append, List.sum_append, he]; simp
        have hwr : IntKind.i64.wrap ((lens (l.take i) : Int) + ofN (cell 3 (elem i l)).toRows.length) = (lens (l.take (i + 1)) : Int) := by
          have : i * 140737488355328 ≤ 60 * 140737488355328 := Nat.mul_le_mul_right _ h60
          rw [hsum, wrap_of (by unfold ofN; omega) (by unfold ofN; omega)]; rfl
        by_cases hA : (cell 1 (elem i l)).toInt < -1099511627776
        · refine ⟨lens (l.take (i + 1)), false, by simp, fun R k0 k1 => ?_⟩
          unfold F38_58
          rw [lt_true (show (i : Int) < ofN l.length by unfold ofN; omega), cond_true, le_true (show (i : Int) ≤ 60 by omega), cond_true, within_of hi, cond_true, Int.toNat_natCast, hwr, lt_true hA]; rfl
        · by_cases hB : 1099511627776 < (cell 1 (elem i l)).toInt
          · refine ⟨lens (l.take (i + 1)), false, by simp, fun R k0 k1 => ?_⟩
            unfold F38_58
            rw [lt_true (show (i : Int) < ofN l.length by unfold ofN; omega), cond_true, le_true (show (i : Int) ≤ 60 by omega), cond_true, within_of hi, cond_true, Int.toNat_natCast, hwr, lt_false hA, lt_true hB]; rfl
          · obtain ⟨s, f, h4, h5⟩ := ih (i + 1) (by omega) (by omega) (by omega) (by
              have he : elem i l = l[i] := by unfold elem; rw [List.getD_eq_getElem?_getD, List.getElem?_eq_getElem hi]; rfl
              rw [List.take_succ_eq_append_getElem hi, ← he]
              intro o ho
              rcases List.mem_append.1 ho with ho | ho
              · exact hall o ho
              · rw [List.mem_singleton] at ho; subst ho; omega) (by rw [hsum, Nat.add_mul]; omega)
            refine ⟨s, f, h4, fun R k0 k1 => ?_⟩
            rw [← h5 R k0 k1]
            conv => lhs; unfold F38_58
            rw [lt_true (show (i : Int) < ofN l.length by unfold ofN; omega), cond_true, le_true (show (i : Int) ≤ 60 by omega), cond_true, within_of hi, cond_true, Int.toNat_natCast, hwr, lt_false hA, lt_false hB, wrap_succ (by omega)]; rfl
      · refine ⟨lens (l.take i), true, fun _ => ?_, fun R k0 k1 => ?_⟩
        · have : i = 61 := by omega
          subst this; exact ⟨rfl, hall⟩
        · unfold F38_58
          rw [lt_true (show (i : Int) < ofN l.length by unfold ofN; omega), cond_true, le_false (show ¬ (i : Int) ≤ 60 by omega)]; rfl
    · have hle : l.take 61 = l.take i := by rw [List.take_of_length_le (show l.length ≤ 61 by omega), List.take_of_length_le (show l.length ≤ i by omega)]
      refine ⟨lens (l.take i), true, fun _ => ?_, fun R k0 k1 => ?_⟩
      · rw [hle]; exact ⟨rfl, hall⟩
      · unfold F38_58
        rw [lt_false (show ¬ (i : Int) < ofN l.length by unfold ofN; omega)]; rfl

/-- Calls that may be gone through. -/
structure Few (l : List (List D)) : Prop where
  len : l.length ≤ 60
  sum : lens l ≤ 400
  lo : ∀ o ∈ l, -1099511627776 ≤ (cell 1 o).toInt ∧ (cell 1 o).toInt ≤ 1099511627776

theorem few_ok (fu : Nat) (l : List (List D)) (hfu : 1000 ≤ fu) (hw : ∀ o ∈ l, (cell 3 o).toRows.length ≤ 140737488355328) :
    ∃ f : Bool, (f = true → Few l) ∧ ∀ (R : Type) (k : Bool → Option R), F38 fu l k = k f := by
  obtain ⟨s, f, h1, h2⟩ := few_loop fu l hw fu 0 (by omega) (by omega) (by omega) (by simp) (by simp [lens])
  refine ⟨f && (decide (ofN l.length ≤ 60) && decide (s ≤ 400)), fun h => ?_, fun R k => ?_⟩
  · simp only [Bool.and_eq_true, decide_eq_true_eq] at h
    obtain ⟨hf, hl, hs⟩ := h
    obtain ⟨h3, h4⟩ := h1 hf
    have hl : l.length ≤ 60 := by unfold ofN at hl; omega
    rw [List.take_of_length_le (by omega)] at h3 h4
    exact ⟨hl, by omega, h4⟩
  · unfold F38
    have := h2 R (fun _ => k false) (fun o_1 => bif decide (ofN l.length ≤ 60) then k (decide (o_1 ≤ 400)) else k false)
    refine this.trans ?_
    cases f
    · rfl
    · cases decide (ofN l.length ≤ 60) <;> rfl

theorem lens_drop {l : List (List D)} {i : Nat} (h : i < l.length) : lens (l.drop i) = (cell 3 (elem i l)).toRows.length + lens (l.drop (i + 1)) := by
  rw [drop_elem h]; simp [lens]

end Go.Proofs.Ytdoikghgblohjaa.V

/- EntryMatches: what its code computes is true. -/
namespace Go.Proofs.Ytdoikghgblohjaa.V
variable {R : Type}

theorem elem_app_l (x y : List (List D)) {j : Nat} (h : j < x.length) : elem j (x ++ y) = elem j x := by
  unfold elem
  rw [List.getD_eq_getElem?_getD, List.getD_eq_getElem?_getD, List.getElem?_append_left h]

theorem elem_app_one (x : List (List D)) (y : List D) : elem x.length (x ++ [y]) = y := by
  unfold elem
  rw [List.getD_eq_getElem?_getD, List.getElem?_append_right (Nat.le_refl _)]; simp

theorem elem_take (x : List (List D)) {j p : Nat} (h : j < p) : elem j (x.take p) = elem j x := by
  unfold elem
  rw [List.getD_eq_getElem?_getD, List.getD_eq_getElem?_getD, List.getElem?_take, if_pos h]

theorem mergeL_ge : ∀ (more : List (List D)) (p : Nat) (out : List (List D)), p ≤ out.length → p + more.length ≤ (mergeL p more out).length
  | [], p, out, h => by unfold mergeL; simpa using h
  | e :: more, p, out, h => by
    unfold mergeL
    simp only [List.length_cons]
    split
    · rename_i h1
      have := mergeL_ge more (p + 1) out h1.1; omega
    · have := mergeL_ge more (p + 1) (out.take p ++ [NE e]) (by simp only [List.length_append, List.length_take, List.length_singleton]; omega); omega

theorem mergeL_low : ∀ (more : List (List D)) (p : Nat) (out : List (List D)) (j : Nat), p ≤ out.length → j < p → elem j (mergeL p more out) = elem j out
  | [], p, out, j, h, hj => rfl
  | e :: more, p, out, j, h, hj => by
    unfold mergeL
    split
    · rename_i h1
      exact mergeL_low more (p + 1) out j h1.1 (by omega)
    · rw [mergeL_low more (p + 1) (out.take p ++ [NE e]) j (by simp only [List.length_append, List.length_take, List.length_singleton]; omega) (by omega), elem_app_l _ _ (by rw [List.length_take]; omega), elem_take _ hj]

theorem mergeL_at : ∀ (more : List (List D)) (p : Nat) (out : List (List D)) (i : Nat), p ≤ out.length → i < more.length →
    elem (p + i) (mergeL p more out) = NE (elem i more) ∨ (p + i < out.length ∧ elem (p + i) (mergeL p more out) = elem (p + i) out ∧ (cell 0 (elem (p + i) out)).toInt = (cell 0 (elem i more)).toInt)
  | [], p, out, i, h, hi => by simp at hi
  | e :: more, p, out, i, h, hi => by
    unfold mergeL
    split
    · rename_i h1
      cases i with
      | zero => exact .inr ⟨h1.1, mergeL_low more (p + 1) out p h1.1 (by omega), h1.2⟩
      | succ i =>
        have := mergeL_at more (p + 1) out i h1.1 (by simp only [List.length_cons] at hi; omega)
        rw [show p + (i + 1) = p + 1 + i by omega]
        exact this
    · have hl : (out.take p ++ [NE e]).length = p + 1 := by simp only [List.length_append, List.length_take, List.length_singleton]; omega
      have hp : (out.take p).length = p := by rw [List.length_take]; omega
      cases i with
      | zero =>
        refine .inl ?_
        rw [Nat.add_zero, mergeL_low more (p + 1) _ p (by omega) (by omega)]
        have := elem_app_one (out.take p) (NE e)
        rw [hp] at this
        exact this
      | succ i =>
        have := mergeL_at more (p + 1) (out.take p ++ [NE e]) i (by omega) (by simp only [List.length_cons] at hi; omega)
        rw [show p + (i + 1) = p + 1 + i by omega]
        rcases this with h2 | h2
        · exact .inl h2
        · omega

theorem runs13 (fu : Nat) (x : List (List D)) (hfu : 1000 ≤ fu) (hx : Few x) : ∀ (n i m : Nat) (b t : Int) (l : List (List D)), x.length + 1 ≤ i + n → i ≤ x.length → m + lens (x.drop i) ≤ 400 → 0 ≤ b → b + l.length ≤ m →
    ∃ (b' t' : Int) (l' : List (List D)), 0 ≤ b' ∧ b' + l'.length ≤ 400 ∧ ∀ (R : Type) (k : Int → Int → List (List D) → Option R), F13_250 fu x (ofN x.length) n (i : Int) b t l b t l k = k b' t' l' := by
  intro n
  induction n with
  | zero => intro i m b t l h1 h2; omega
  | succ n ih =>
    intro i m b t l h1 h2 h3 h4 h5
    by_cases hi : i < x.length
    · rw [lens_drop hi] at h3
      obtain ⟨hA, hB⟩ := hx.lo _ (elem_mem hi)
      obtain ⟨b1, t1, l1, f, q1, q2, q3⟩ := does_ok fu [D.int (cell 0 (elem i x)).toInt, D.int (cell 1 (elem i x)).toInt, D.int (cell 2 (elem i x)).toInt, D.row (cell 3 (elem i x)).toRows] b t l m hfu h4 h5 (show m + (cell 3 (elem i x)).toRows.length ≤ 400 by omega) hA hB
      obtain ⟨b2, t2, l2, p1, p2, p3⟩ := ih (i + 1) (m + (cell 3 (elem i x)).toRows.length) b1 t1 l1 (by omega) (by omega) (by omega) q1 q2
      refine ⟨b2, t2, l2, p1, p2, fun R k => ?_⟩
      unfold F13_250
      rw [lt_true (show (i : Int) < ofN x.length by unfold ofN; omega), cond_true, within_of hi, cond_true, Int.toNat_natCast, q3, wrap_succ (by have := hx.len; omega)]
      exact p3 R k
    · refine ⟨b, t, l, h4, by omega, fun R k => ?_⟩
      unfold F13_250
      rw [lt_false (show ¬ (i : Int) < ofN x.length by unfold ofN; omega), cond_false]

theorem look13a (fu : Nat) (b t : Int) (p : Nat) (l r : List (List D)) (hb : 0 ≤ b) (hb2 : b ≤ 1000000) (hp : p ≤ l.length) (hpr : p ≤ r.length) (hl : l.length ≤ 10000) (hr : r.length ≤ 10000) (he : ∀ j, j < p → elem j r = elem j l) (k0 k1 : Option R) : ∀ (n j : Nat), p + 2 ≤ j + n → j ≤ p + 1 →
    F13_32762 fu (b + p) b t r b t l n (b + j) k0 k1 = k1 := by
  intro n
  induction n with
  | zero => intro j h1 h2; omega
  | succ n ih =>
    intro j h1 h2
    unfold F13_32762
    by_cases hj : j ≤ p
    · have hnext := ih (j + 1) (by omega) (by omega)
      have hw : IntKind.i64.wrap (b + j + 1) = b + ((j + 1 : Nat) : Int) := by rw [wrap_of (by omega) (by omega)]; push_cast; omega
      rw [le_true (show b + (j : Int) ≤ b + p by omega), cond_true, hw]
      cases j with
      | zero =>
        rw [get_out _ _ _ _ _ _ hb (by omega) (by omega) (.inl (by omega)), get_out _ _ _ _ _ _ hb (by omega) (by omega) (.inl (by omega))]
        rw [eq_true rfl, strEq_refl]
        exact hnext
      | succ j =>
        rw [show b + ((j + 1 : Nat) : Int) = b + 1 + j by push_cast; omega, get_in _ _ _ _ _ _ hb (by omega) (by omega) (by omega), get_in _ _ _ _ _ _ hb (by omega) (by omega) (by omega), he j (by omega)]
        rw [eq_true rfl, strEq_refl]
        exact hnext
    · rw [le_false (by omega)]; rfl

theorem look13b (fu : Nat) (b t : Int) (p : Nat) (more l r : List (List D)) (hb : 0 ≤ b) (hb2 : b ≤ 1000000) (hpr : p + more.length ≤ r.length) (hm : more.length ≤ 60) (hl : l.length ≤ 10000) (hr : r.length ≤ 10000)
    (he : ∀ i, i < more.length → elem (p + i) r = NE (elem i more) ∨ (p + i < l.length ∧ elem (p + i) r = elem (p + i) l ∧ (cell 0 (elem (p + i) l)).toInt = (cell 0 (elem i more)).toInt)) (k0 k1 : Option R) : ∀ (n i : Nat), more.length + 1 ≤ i + n → i ≤ more.length →
    F13_65530 fu (b + p) more (ofN more.length) b t r b t l n i k0 k1 = k1 := by
  intro n
  induction n with
  | zero => intro j h1 h2; omega
  | succ n ih =>
    intro i h1 h2
    unfold F13_65530
    by_cases hi : i < more.length
    · have hnext := ih (i + 1) (by omega) (by omega)
      have hw : IntKind.i64.wrap (IntKind.i64.wrap (b + p + 1) + i) = b + 1 + ((p + i : Nat) : Int) := by
        rw [wrap_of (x := b + p + 1) (by omega) (by omega), wrap_of (by omega) (by omega)]; push_cast; omega
      rw [lt_true (show (i : Int) < ofN more.length by unfold ofN; omega), cond_true, within_of hi, cond_true, hw, wrap_succ (by omega), Int.toNat_natCast]
      rw [get_in _ _ _ _ _ _ hb (by omega) (by omega) (show p + i < r.length by omega)]
      rcases he i hi with h | ⟨h3, h4, h5⟩
      · have q1 : (cell 0 (NE (elem i more))).toInt = (cell 0 (elem i more)).toInt := rfl
        have q2 : (cell 1 (NE (elem i more))).toStr = (cell 1 (elem i more)).toStr := rfl
        have hg : ∀ k : List D → Bool → Option R, (∀ z f, k z f = k1) → F56 fu (b + 1 + ((p + i : Nat) : Int)) b t l k = k1 := by
          intro k hk
          by_cases h : p + i < l.length
          · rw [get_in _ _ _ _ _ _ hb (by omega) (by omega) h]; exact hk _ _
          · rw [get_out _ _ _ _ _ _ hb (by omega) (by omega) (.inr (by omega))]; exact hk _ _
        refine hg _ fun z f => ?_
        rw [h, q1, q2, eq_true rfl, strEq_refl]
        exact hnext
      · rw [get_in _ _ _ _ _ _ hb (by omega) (by omega) h3, h4, eq_true h5, eq_true rfl, strEq_refl (cell 1 (elem (p + i) l)).toStr]
        simp only [Bool.not_true, cond_false, cond_true, Bool.true_and, Bool.and_true]
        cases strEq (cell 1 (elem (p + i) l)).toStr (cell 1 (elem i more)).toStr
        · exact hnext
        · exact hnext
    · rw [lt_false (show ¬ (i : Int) < ofN more.length by unfold ofN; omega), cond_false]

theorem matches13 (fu : Nat) (hfu : 1000 ≤ fu) (l : List (List D)) (a : Int) (more : List (List D)) (hl : ∀ o ∈ l, (cell 3 o).toRows.length ≤ 140737488355328) : F13 fu l a more (fun o => some o) = some true := by
  have aw : ∀ (k : Option Bool), F39 fu k = k := fun k => rfl
  have e40 : ∀ (k : Int → Int → Option Bool), F40 fu 0 0 k = k 0 0 := fun k => rfl
  have e41 : ∀ (k : List D → Option Bool), F41 fu 0 0 k = k [D.int 0, D.int 0, D.row []] := fun k => rfl
  have e55 : ∀ (b t : Int) (l : List (List D)) (k : Option Bool), F55 fu b t l k = k := fun _ _ _ _ => rfl
  obtain ⟨f, f1, f2⟩ := few_ok fu l hfu hl
  obtain ⟨fu', hfu'⟩ : ∃ n, fu = n + 2 := ⟨fu - 2, by omega⟩
  unfold F13
  simp only [aw]
  rw [f2]
  cases f with
  | false => rfl
  | true =>
    rw [Bool.not_true, cond_false]
    by_cases hm : (60 : Int) < ofN more.length
    · rw [lt_true hm]; rfl
    · rw [lt_false hm, cond_false]
      have hm : more.length ≤ 60 := by unfold ofN at hm; omega
      obtain ⟨b, t, x, p1, p2, p3⟩ := runs13 fu l hfu (f1 rfl) fu 0 0 0 0 [] (by have := (f1 rfl).len; omega) (by omega) (by have := (f1 rfl).sum; rw [List.drop_zero]; omega) (by omega) (by simp)
      simp only [e40, e41, e55, cl0, cl1, cl2]
      refine (p3 Bool _).trans ?_
      have hmm : (more.map NE).length ≤ 60 := by rw [List.length_map]; exact hm
      have hfit : fits x.length 24 = true := fits_of (by omega) (by omega)
      have e57 : ∀ (k : Option Bool), F57 fu b t x k = k := fun k => by unfold F57; rw [hfit]; rfl
      simp only [e57, of_ok fu more (by omega) (by omega)]
      by_cases hlow : a < b
      · rw [term_out _ _ _ _ _ _ p1 (by omega) (by omega) (.inl hlow)]
        rw [lt_true hlow]
        by_cases hneg : a < 0
        · have q : ∀ k : Int → Bool → List (List D) → Option Bool, F58 fu fu a 0 (more.map NE) b t x k = k 0 false x := fun k => by
            conv => lhs; arg 2; rw [hfu']
            exact merge_neg _ _ _ _ _ _ _ _ _ hneg
          rw [q]
          unfold F13_4093
          rw [le_false (show ¬ (0 : Int) ≤ a by omega)]; rfl
        · have q : ∀ k : Int → Bool → List (List D) → Option Bool, F58 fu fu a 0 (more.map NE) b t x k = k (mergeR b t x a 0 (more.map NE)).1 (mergeR b t x a 0 (more.map NE)).2.1 (mergeR b t x a 0 (more.map NE)).2.2 := fun k => by
            conv => lhs; arg 2; rw [hfu']
            exact merge_ok _ _ _ _ _ _ _ _ _ p1 (by omega) (by omega) (by omega) (by omega) (by omega) (by omega)
          rw [q]
          have q2 : (mergeR b t x a 0 (more.map NE)).2.1 = true := by
            unfold mergeR; rw [if_pos hlow]; split <;> rfl
          rw [q2]
          unfold F13_4093
          rw [le_true (show (0 : Int) ≤ a by omega), lt_true hlow, e55]
          rfl
      · by_cases hhi : b + x.length < a
        · rw [term_out _ _ _ _ _ _ p1 (by omega) (by omega) (.inr hhi)]
          have q : ∀ k : Int → Bool → List (List D) → Option Bool, F58 fu fu a 0 (more.map NE) b t x k = k 0 false x := fun k => by
            conv => lhs; arg 2; rw [hfu']
            unfold F58
            rw [lt_false (show ¬ a < 0 by omega), cond_false, lt_false hlow, cond_false, term_out _ _ _ _ _ _ p1 (by omega) (by omega) (.inr hhi)]; rfl
          rw [q, lt_false hlow, cond_false, last_ok _ _ _ _ _ p1 (by omega) (by omega), lt_true hhi]
          unfold F13_4093
          rw [le_true (show (0 : Int) ≤ a by omega), lt_false hlow, e55]
          rfl
        · obtain ⟨p, rfl⟩ : ∃ p : Nat, a = b + p := ⟨(a - b).toNat, by omega⟩
          rw [term_ok _ _ _ _ _ _ p1 (by omega) (by omega) (by omega) (by omega)]
          have q : ∀ k : Int → Bool → List (List D) → Option Bool, F58 fu fu (b + p) (termOf b t x (b + p)) (more.map NE) b t x k = k (b + p + more.length) true (mergeL p more x) := fun k => by
            conv => lhs; arg 2; rw [hfu']
            rw [merge_ok _ _ _ _ _ _ _ _ _ p1 (by omega) (by omega) (by omega) (by omega) (by omega) (by omega), mergeR_map]
            unfold mergeR
            rw [if_neg hlow, if_neg hhi, if_pos rfl, show (b + (p : Int) - b).toNat = p by omega]
          rw [q, lt_false hlow, cond_false, last_ok _ _ _ _ _ p1 (by omega) (by omega), lt_false hhi]
          unfold F13_4093
          rw [cond_false]
          unfold F13_2047
          have hlen := mergeL_len more p x
          have hge := mergeL_ge more p x (by omega)
          rw [Bool.not_true, cond_false, wrap_of (by unfold ofN; omega) (by unfold ofN; omega), eq_true (show b + (p : Int) + more.length = b + p + ofN more.length from rfl), Bool.not_true, cond_false, e55]
          have r1 := look13a fu b t p x (mergeL p more x) p1 (by omega) (by omega) (by omega) (by omega) (by omega) (fun j hj => mergeL_low more p x j (by omega) hj) (some false) (F13_65530 fu (b + p) more (ofN more.length) b t (mergeL p more x) b t x fu 0 (some false) (F39 fu (some true))) fu 0 (by omega) (by omega)
          rw [show b + ((0 : Nat) : Int) = b by simp] at r1
          refine r1.trans ?_
          exact look13b fu b t p more x (mergeL p more x) p1 (by omega) hge hm (by omega) (by omega) (fun i hi => mergeL_at more p x i (by omega) hi) (some false) (F39 fu (some true)) fu 0 (by omega) (by omega)
end Go.Proofs.Ytdoikghgblohjaa.V

namespace Go.Proofs.Ytdoikghgblohjaa

theorem matches_holds : Rows.EntryMatchesSaid := matches_join (V.law13 1000 fun _ _ _ h1 _ _ => V.matches13 1000 (Nat.le_refl _) _ _ _ (fun r hr => by have := (((h1.cell (j := 0) rfl).rows r hr).cell (j := 3) rfl).rows_len; have := V.reach_lt; omega))

end Go.Proofs.Ytdoikghgblohjaa

