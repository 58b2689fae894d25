import Derived.Test.YtdoikghgblohjaaBase4
import Derived.Test.YtdoikghgblohjaaChecked
import Derived.ProofKit
import Derived.KernelRfl
import Derived.Test.YtdoikghgblohjaaRows
set_option linter.unusedVariables false
set_option linter.unusedSimpArgs false

/- What all joins use. -/
namespace Go.Proofs.Ytdoikghgblohjaa
theorem Try.own : ownKnob Try.prog.godebug = none := by kernel_rfl
theorem Try.laidOut : laidOutB Try.prog = true := by kernel_rfl
end Go.Proofs.Ytdoikghgblohjaa

/- Where V's law of function 6 stands, the given row stands. -/
namespace Go.Proofs.Ytdoikghgblohjaa
open Go.ChangeShapes Go.WideShapes Go.ChangeAt Go.RowKit

set_option maxRecDepth 100000 in
theorem calls_lifted (law : V.Law Try.prog 6 Try.f6.params.toList) (os : Os) (started : os.Started) (H : Type) (enc : TypeId × Value → H) :
    ReturnsInHanded {} Try.checked os 6 .any (Rows.clientCallsSpec.pre6 enc Try.prog Try.f6 Rows.clientCallsRow.domain false) (Rows.clientCallsSpec.post enc Try.prog Try.f6 false true false false) := by
  refine V.lift (C := Try.checked) enc Try.own started (by kernel_rfl) Try.func6
    (ChangeSpec.witness6 (enc := enc) (C := Try.checked) false ⟨#[], #[.int .i64 0, .int .i64 0, .slice none 0 0], []⟩ 8 (by kernel_rfl) (by kernel_rfl) (by kernel_rfl) (by kernel_rfl)) rfl (fun ds h => ?_) rfl (by kernel_rfl) Try.laidOut (by kernel_rfl) law
  have h : ds.length = 3 := h
  match ds, h with
  | [d1, d2, d3], _ => rfl

theorem calls_join (law : V.Law Try.prog 6 Try.f6.params.toList) : Rows.ClientCallsSaid :=
  OpenClaim.holds_of_wide 6 Try.f6 rfl rfl rfl rfl rfl rfl rfl ⟨rfl, rfl, rfl, rfl, rfl⟩ rfl rfl rfl rfl rfl (by kernel_rfl) Try.func6 (by kernel_rfl)
    (of_decide_eq_true (by kernel_rfl)) (by unfold Func.isWrapper; first | (rw [if_pos (by decide +kernel)]; kernel_rfl) | (rw [if_neg (by decide +kernel)]; exact ⟨rfl, rfl⟩))
    (fun os started H enc _ => calls_lifted law os started H enc)

end Go.Proofs.Ytdoikghgblohjaa

/- Printed by ugen: slices.Clone[[]byte,byte] -/
namespace Go.Proofs.Ytdoikghgblohjaa.V
set_option maxRecDepth 100000

abbrev ft0 : List FT := [FT.int IntKind.u8]
abbrev ft1 : List FT := [FT.int IntKind.i64, FT.str]
abbrev ft2 : List FT := [FT.str]
abbrev ft3 : List FT := [FT.int IntKind.i64]
abbrev ft4 : List FT := [FT.int IntKind.i64, FT.int IntKind.i64, FT.str, FT.str, FT.str]
abbrev ft5 : List FT := [FT.int IntKind.i64, FT.int IntKind.i64, FT.int IntKind.i64, FT.str, FT.int IntKind.i64, FT.int IntKind.i64, FT.int IntKind.i64, FT.int IntKind.i64, FT.int IntKind.i64, FT.str, FT.bool, FT.str, FT.str, FT.str, FT.str, FT.row 16 [FT.str], FT.int IntKind.i64, FT.int IntKind.i64]
abbrev ft6 : List FT := [FT.int IntKind.i64, FT.row 8 [FT.int IntKind.i64], FT.row 64 [FT.int IntKind.i64, FT.int IntKind.i64, FT.str, FT.str, FT.str]]
abbrev ft7 : List FT := [FT.int IntKind.i64, FT.int IntKind.i64, FT.int IntKind.i64, FT.str, FT.int IntKind.i64, FT.int IntKind.i64, FT.int IntKind.i64, FT.int IntKind.i64, FT.int IntKind.i64, FT.str, FT.bool, FT.str, FT.str, FT.str, FT.str, FT.row 16 [FT.str], FT.int IntKind.i64, FT.int IntKind.i64, FT.int IntKind.i64, FT.int IntKind.i64, FT.bool, FT.int IntKind.i64, FT.row 8 [FT.int IntKind.i64], FT.row 64 [FT.int IntKind.i64, FT.int IntKind.i64, FT.str, FT.str, FT.str]]

noncomputable def c68 : Code := match Try.f68.body with | some c => c | none => .skip

theorem s68 (fu : Nat) : Tells Try.prog 68 (toldClone ft0 1) :=
  clone_tells (F := (fun _ => none)) (k := 300) (fun _ _ _ h => by cases h) (fun R K => by kernel_rfl) (fun R K es => by kernel_rfl)

noncomputable def tb68 (fu : Nat) : FuncId → Option (Bool × ToldF) := fun f => match Nat.beq f 68 with
  | true => some (false, ghF [.fzP 0 [] ft0] (toldClone ft0 1))
  | false => (fun _ => none) f
theorem tb68_sound (fu : Nat) : SoundF' Try.prog (tb68 fu) := by
  intro f own told h
  unfold tb68 at h
  split at h
  · rename_i hb
    cases h
    have := Nat.eq_of_beq_eq_true hb
    subst this
    exact ghF_sound (s68 fu)
  · exact (fun _ _ _ h => by cases h) f own told h

end Go.Proofs.Ytdoikghgblohjaa.V

/- Printed by ugen: slices.Clone[[]daisychain/entry.Entry,daisychain/entry.Entry] -/
namespace Go.Proofs.Ytdoikghgblohjaa.V
set_option maxRecDepth 100000


noncomputable def c77 : Code := match Try.f77.body with | some c => c | none => .skip

theorem s77 (fu : Nat) : Tells Try.prog 77 (toldClone ft1 24) :=
  clone_tells (F := (tb68 fu)) (k := 300) (tb68_sound fu) (fun R K => by kernel_rfl) (fun R K es => by kernel_rfl)

noncomputable def tb77 (fu : Nat) : FuncId → Option (Bool × ToldF) := fun f => match Nat.beq f 77 with
  | true => some (false, ghF [.fzP 0 [] ft1] (toldClone ft1 24))
  | false => (tb68 fu) f
theorem tb77_sound (fu : Nat) : SoundF' Try.prog (tb77 fu) := by
  intro f own told h
  unfold tb77 at h
  split at h
  · rename_i hb
    cases h
    have := Nat.eq_of_beq_eq_true hb
    subst this
    exact ghF_sound (s77 fu)
  · exact (tb68_sound fu) f own told h

end Go.Proofs.Ytdoikghgblohjaa.V

/- Printed by ugen: slices.Clone[[]string,string] -/
namespace Go.Proofs.Ytdoikghgblohjaa.V
set_option maxRecDepth 100000


noncomputable def c82 : Code := match Try.f82.body with | some c => c | none => .skip

theorem s82 (fu : Nat) : Tells Try.prog 82 (toldClone ft2 16) :=
  clone_tells (F := (tb77 fu)) (k := 300) (tb77_sound fu) (fun R K => by kernel_rfl) (fun R K es => by kernel_rfl)

noncomputable def tb82 (fu : Nat) : FuncId → Option (Bool × ToldF) := fun f => match Nat.beq f 82 with
  | true => some (false, ghF [.fzP 0 [] ft2] (toldClone ft2 16))
  | false => (tb77 fu) f
theorem tb82_sound (fu : Nat) : SoundF' Try.prog (tb82 fu) := by
  intro f own told h
  unfold tb82 at h
  split at h
  · rename_i hb
    cases h
    have := Nat.eq_of_beq_eq_true hb
    subst this
    exact ghF_sound (s82 fu)
  · exact (tb77_sound fu) f own told h

end Go.Proofs.Ytdoikghgblohjaa.V

/- Printed by ugen: slices.Clone[[]int,int] -/
namespace Go.Proofs.Ytdoikghgblohjaa.V
set_option maxRecDepth 100000


noncomputable def c83 : Code := match Try.f83.body with | some c => c | none => .skip

theorem s83 (fu : Nat) : Tells Try.prog 83 (toldClone ft3 8) :=
  clone_tells (F := (tb82 fu)) (k := 300) (tb82_sound fu) (fun R K => by kernel_rfl) (fun R K es => by kernel_rfl)

noncomputable def tb83 (fu : Nat) : FuncId → Option (Bool × ToldF) := fun f => match Nat.beq f 83 with
  | true => some (false, ghF [.fzP 0 [] ft3] (toldClone ft3 8))
  | false => (tb82 fu) f
theorem tb83_sound (fu : Nat) : SoundF' Try.prog (tb83 fu) := by
  intro f own told h
  unfold tb83 at h
  split at h
  · rename_i hb
    cases h
    have := Nat.eq_of_beq_eq_true hb
    subst this
    exact ghF_sound (s83 fu)
  · exact (tb82_sound fu) f own told h

end Go.Proofs.Ytdoikghgblohjaa.V

/- Printed by ugen: slices.Clone[[]daisychain/queue.Took,daisychain/queue.Took] -/
namespace Go.Proofs.Ytdoikghgblohjaa.V
set_option maxRecDepth 100000


noncomputable def c84 : Code := match Try.f84.body with | some c => c | none => .skip

theorem s84 (fu : Nat) : Tells Try.prog 84 (toldClone ft4 64) :=
  clone_tells (F := (tb83 fu)) (k := 300) (tb83_sound fu) (fun R K => by kernel_rfl) (fun R K es => by kernel_rfl)

noncomputable def tb84 (fu : Nat) : FuncId → Option (Bool × ToldF) := fun f => match Nat.beq f 84 with
  | true => some (false, ghF [.fzP 0 [] ft4] (toldClone ft4 64))
  | false => (tb83 fu) f
theorem tb84_sound (fu : Nat) : SoundF' Try.prog (tb84 fu) := by
  intro f own told h
  unfold tb84 at h
  split at h
  · rename_i hb
    cases h
    have := Nat.eq_of_beq_eq_true hb
    subst this
    exact ghF_sound (s84 fu)
  · exact (tb83_sound fu) f own told h

end Go.Proofs.Ytdoikghgblohjaa.V

/- Printed by ugen: daisychain/client.apart[string] -/
namespace Go.Proofs.Ytdoikghgblohjaa.V
set_option maxRecDepth 100000


noncomputable def c78 : Code := match Try.f78.body with | some c => c | none => .skip

noncomputable def F78 {R : Type} (fu : Nat) (l : List (List D)) (k0 : Option R) : Option R :=
  bif fits l.length 16 then (k0) else none

noncomputable def pc78 (fu : Nat) : Nat → Option ToldP := fun _ => none
noncomputable def t78 (fu : Nat) : ToldF := fun _ args s K => match args, s with
  | [.fz zq0 l false], [] => (match FT.sames zq0 ft2 with | true => F78 fu l (K (.own 0) [.row ft2 (l)]) | false => none)
  | _, _ => none

theorem e78 (R : Type) (K : UV → USt → Option R) (fu : Nat) (l : List (List D)) :
    F78 fu l (K (.own 0) [.row ft2 (l)]) = ufun Try.prog ⟨(tb84 fu), pc78 fu⟩ 300 78 [.fz ft2 l false] [] (funK 0 [.gc] K) := by kernel_rfl

theorem s78 (fu : Nat) : Tells Try.prog 78 (t78 fu) := by
  refine ufun_sound (T := ⟨(tb84 fu), pc78 fu⟩) (m := 0) (gout := [.gc]) (k := 300) (tb84_sound fu) (fun fn body hf hb => ?_) (fun R args s K r h => ?_) (fun R args s K r h => ?_)
  · have hc : body = c78 := by
      have h1 : Try.prog.funcs[78]? = some Try.f78 := rfl
      rw [h1] at hf; cases hf
      have h2 : Try.f78.body = some c78 := rfl
      rw [h2] at hb; cases hb; rfl
    subst hc
    exact SoundPc.none _ _ _
  · unfold t78 at h; split at h
    · rfl
    · cases h
  · unfold t78 at h; split at h
    case h_2 => cases h
    split at h
    case h_2 => cases h
    rename_i hq
    have hq := FT.sames_eq _ _ hq
    subst hq
    exact (e78 R K fu _).symm.trans h

noncomputable def tb78 (fu : Nat) : FuncId → Option (Bool × ToldF) := fun f => match Nat.beq f 78 with
  | true => some (false, ghF [.fzP 0 [] ft2] (t78 fu))
  | false => (tb84 fu) f
theorem tb78_sound (fu : Nat) : SoundF' Try.prog (tb78 fu) := by
  intro f own told h
  unfold tb78 at h
  split at h
  · rename_i hb
    cases h
    have := Nat.eq_of_beq_eq_true hb
    subst this
    exact ghF_sound (s78 fu)
  · exact (tb84_sound fu) f own told h

end Go.Proofs.Ytdoikghgblohjaa.V

/- Printed by ugen: daisychain/client.apart[int] -/
namespace Go.Proofs.Ytdoikghgblohjaa.V
set_option maxRecDepth 100000


noncomputable def c79 : Code := match Try.f79.body with | some c => c | none => .skip

noncomputable def F79 {R : Type} (fu : Nat) (l : List (List D)) (k0 : Option R) : Option R :=
  bif fits l.length 8 then (k0) else none

noncomputable def pc79 (fu : Nat) : Nat → Option ToldP := fun _ => none
noncomputable def t79 (fu : Nat) : ToldF := fun _ args s K => match args, s with
  | [.fz zq0 l false], [] => (match FT.sames zq0 ft3 with | true => F79 fu l (K (.own 0) [.row ft3 (l)]) | false => none)
  | _, _ => none

theorem e79 (R : Type) (K : UV → USt → Option R) (fu : Nat) (l : List (List D)) :
    F79 fu l (K (.own 0) [.row ft3 (l)]) = ufun Try.prog ⟨(tb78 fu), pc79 fu⟩ 300 79 [.fz ft3 l false] [] (funK 0 [.gc] K) := by kernel_rfl

theorem s79 (fu : Nat) : Tells Try.prog 79 (t79 fu) := by
  refine ufun_sound (T := ⟨(tb78 fu), pc79 fu⟩) (m := 0) (gout := [.gc]) (k := 300) (tb78_sound fu) (fun fn body hf hb => ?_) (fun R args s K r h => ?_) (fun R args s K r h => ?_)
  · have hc : body = c79 := by
      have h1 : Try.prog.funcs[79]? = some Try.f79 := rfl
      rw [h1] at hf; cases hf
      have h2 : Try.f79.body = some c79 := rfl
      rw [h2] at hb; cases hb; rfl
    subst hc
    exact SoundPc.none _ _ _
  · unfold t79 at h; split at h
    · rfl
    · cases h
  · unfold t79 at h; split at h
    case h_2 => cases h
    split at h
    case h_2 => cases h
    rename_i hq
    have hq := FT.sames_eq _ _ hq
    subst hq
    exact (e79 R K fu _).symm.trans h

noncomputable def tb79 (fu : Nat) : FuncId → Option (Bool × ToldF) := fun f => match Nat.beq f 79 with
  | true => some (false, ghF [.fzP 0 [] ft3] (t79 fu))
  | false => (tb78 fu) f
theorem tb79_sound (fu : Nat) : SoundF' Try.prog (tb79 fu) := by
  intro f own told h
  unfold tb79 at h
  split at h
  · rename_i hb
    cases h
    have := Nat.eq_of_beq_eq_true hb
    subst this
    exact ghF_sound (s79 fu)
  · exact (tb78_sound fu) f own told h

end Go.Proofs.Ytdoikghgblohjaa.V

/- Printed by ugen: daisychain/client.apart[daisychain/queue.Took] -/
namespace Go.Proofs.Ytdoikghgblohjaa.V
set_option maxRecDepth 100000


noncomputable def c80 : Code := match Try.f80.body with | some c => c | none => .skip

noncomputable def F80 {R : Type} (fu : Nat) (l : List (List D)) (k0 : Option R) : Option R :=
  bif fits l.length 64 then (k0) else none

noncomputable def pc80 (fu : Nat) : Nat → Option ToldP := fun _ => none
noncomputable def t80 (fu : Nat) : ToldF := fun _ args s K => match args, s with
  | [.fz zq0 l false], [] => (match FT.sames zq0 ft4 with | true => F80 fu l (K (.own 0) [.row ft4 (l)]) | false => none)
  | _, _ => none

theorem e80 (R : Type) (K : UV → USt → Option R) (fu : Nat) (l : List (List D)) :
    F80 fu l (K (.own 0) [.row ft4 (l)]) = ufun Try.prog ⟨(tb79 fu), pc80 fu⟩ 300 80 [.fz ft4 l false] [] (funK 0 [.gc] K) := by kernel_rfl

theorem s80 (fu : Nat) : Tells Try.prog 80 (t80 fu) := by
  refine ufun_sound (T := ⟨(tb79 fu), pc80 fu⟩) (m := 0) (gout := [.gc]) (k := 300) (tb79_sound fu) (fun fn body hf hb => ?_) (fun R args s K r h => ?_) (fun R args s K r h => ?_)
  · have hc : body = c80 := by
      have h1 : Try.prog.funcs[80]? = some Try.f80 := rfl
      rw [h1] at hf; cases hf
      have h2 : Try.f80.body = some c80 := rfl
      rw [h2] at hb; cases hb; rfl
    subst hc
    exact SoundPc.none _ _ _
  · unfold t80 at h; split at h
    · rfl
    · cases h
  · unfold t80 at h; split at h
    case h_2 => cases h
    split at h
    case h_2 => cases h
    rename_i hq
    have hq := FT.sames_eq _ _ hq
    subst hq
    exact (e80 R K fu _).symm.trans h

noncomputable def tb80 (fu : Nat) : FuncId → Option (Bool × ToldF) := fun f => match Nat.beq f 80 with
  | true => some (false, ghF [.fzP 0 [] ft4] (t80 fu))
  | false => (tb79 fu) f
theorem tb80_sound (fu : Nat) : SoundF' Try.prog (tb80 fu) := by
  intro f own told h
  unfold tb80 at h
  split at h
  · rename_i hb
    cases h
    have := Nat.eq_of_beq_eq_true hb
    subst this
    exact ghF_sound (s80 fu)
  · exact (tb79_sound fu) f own told h

end Go.Proofs.Ytdoikghgblohjaa.V

/- Printed by ugen: daisychain/client.owned -/
namespace Go.Proofs.Ytdoikghgblohjaa.V
set_option maxRecDepth 100000


noncomputable def c62 : Code := match Try.f62.body with | some c => c | none => .skip

noncomputable def F62 {R : Type} (fu : Nat) (x : List D) (k0 : (List D) → Option R) : Option R :=
  F78 fu (cell 15 x).toRows ((k0 x))

noncomputable def pc62 (fu : Nat) : Nat → Option ToldP := fun _ => none
noncomputable def t62 (fu : Nat) : ToldF := fun _ args s K => match args, s with
  | [.agg [.int .i64 q, .int .i64 q1, .int .i64 q2, .str q3, .int .i64 q4, .int .i64 q5, .int .i64 q6, .int .i64 q7, .int .i64 q8, .str q9, .bool q10, .str q11, .str q12, .str q13, .str q14, .fz zq0 q15 false, .int .i64 q16, .int .i64 q17]], [] => (match FT.sames zq0 ft2 with | true => F62 fu [D.int q, D.int q1, D.int q2, D.str q3, D.int q4, D.int q5, D.int q6, D.int q7, D.int q8, D.str q9, D.bool q10, D.str q11, D.str q12, D.str q13, D.str q14, D.row q15, D.int q16, D.int q17] (fun o => K (.agg (ofDs 0 ft5 o)) []) | false => none)
  | _, _ => none

theorem e62 (R : Type) (K : UV → USt → Option R) (fu : Nat) (q : Int) (q1 : Int) (q2 : Int) (q3 : ByteArray) (q4 : Int) (q5 : Int) (q6 : Int) (q7 : Int) (q8 : Int) (q9 : ByteArray) (q10 : Bool) (q11 : ByteArray) (q12 : ByteArray) (q13 : ByteArray) (q14 : ByteArray) (q15 : List (List D)) (q16 : Int) (q17 : Int) :
    F62 fu [D.int q, D.int q1, D.int q2, D.str q3, D.int q4, D.int q5, D.int q6, D.int q7, D.int q8, D.str q9, D.bool q10, D.str q11, D.str q12, D.str q13, D.str q14, D.row q15, D.int q16, D.int q17] (fun o => K (.agg (ofDs 0 ft5 o)) []) = ufun Try.prog ⟨(tb80 fu), pc62 fu⟩ 300 62 [.agg [.int .i64 q, .int .i64 q1, .int .i64 q2, .str q3, .int .i64 q4, .int .i64 q5, .int .i64 q6, .int .i64 q7, .int .i64 q8, .str q9, .bool q10, .str q11, .str q12, .str q13, .str q14, .fz ft2 q15 false, .int .i64 q16, .int .i64 q17]] [] (funK 0 [.fzP 0 [15] ft2, .gc] K) := by kernel_rfl

theorem s62 (fu : Nat) : Tells Try.prog 62 (t62 fu) := by
  refine ufun_sound (T := ⟨(tb80 fu), pc62 fu⟩) (m := 0) (gout := [.fzP 0 [15] ft2, .gc]) (k := 300) (tb80_sound fu) (fun fn body hf hb => ?_) (fun R args s K r h => ?_) (fun R args s K r h => ?_)
  · have hc : body = c62 := by
      have h1 : Try.prog.funcs[62]? = some Try.f62 := rfl
      rw [h1] at hf; cases hf
      have h2 : Try.f62.body = some c62 := rfl
      rw [h2] at hb; cases hb; rfl
    subst hc
    exact SoundPc.none _ _ _
  · unfold t62 at h; split at h
    · rfl
    · cases h
  · unfold t62 at h; split at h
    case h_2 => cases h
    split at h
    case h_2 => cases h
    rename_i hq
    have hq := FT.sames_eq _ _ hq
    subst hq
    exact (e62 R K fu _ _ _ _ _ _ _ _ _ _ _ _ _ _ _ _ _ _).symm.trans h

noncomputable def tb62 (fu : Nat) : FuncId → Option (Bool × ToldF) := fun f => match Nat.beq f 62 with
  | true => some (false, ghF [.fzP 0 [15] ft2] (t62 fu))
  | false => (tb80 fu) f
theorem tb62_sound (fu : Nat) : SoundF' Try.prog (tb62 fu) := by
  intro f own told h
  unfold tb62 at h
  split at h
  · rename_i hb
    cases h
    have := Nat.eq_of_beq_eq_true hb
    subst this
    exact ghF_sound (s62 fu)
  · exact (tb80_sound fu) f own told h

end Go.Proofs.Ytdoikghgblohjaa.V

/- Printed by ugen: daisychain/client.told -/
namespace Go.Proofs.Ytdoikghgblohjaa.V
set_option maxRecDepth 100000


noncomputable def c63 : Code := match Try.f63.body with | some c => c | none => .skip

noncomputable def F63 {R : Type} (fu : Nat) (a : List D) (k0 : (List D) → Option R) : Option R :=
  F79 fu (cell 1 a).toRows (F80 fu (cell 2 a).toRows ((k0 a)))

noncomputable def pc63 (fu : Nat) : Nat → Option ToldP := fun _ => none
noncomputable def t63 (fu : Nat) : ToldF := fun _ args s K => match args, s with
  | [.agg [.int .i64 q, .fz zq0 q1 false, .fz zq1 q2 false]], [] => (match FT.sames zq0 ft3 with | true => (match FT.sames zq1 ft4 with | true => F63 fu [D.int q, D.row q1, D.row q2] (fun o => K (.agg (ofDs 0 ft6 o)) []) | false => none) | false => none)
  | _, _ => none

theorem e63 (R : Type) (K : UV → USt → Option R) (fu : Nat) (q : Int) (q1 : List (List D)) (q2 : List (List D)) :
    F63 fu [D.int q, D.row q1, D.row q2] (fun o => K (.agg (ofDs 0 ft6 o)) []) = ufun Try.prog ⟨(tb62 fu), pc63 fu⟩ 300 63 [.agg [.int .i64 q, .fz ft3 q1 false, .fz ft4 q2 false]] [] (funK 0 [.fzP 0 [1] ft3, .fzP 0 [2] ft4, .gc] K) := by kernel_rfl

theorem s63 (fu : Nat) : Tells Try.prog 63 (t63 fu) := by
  refine ufun_sound (T := ⟨(tb62 fu), pc63 fu⟩) (m := 0) (gout := [.fzP 0 [1] ft3, .fzP 0 [2] ft4, .gc]) (k := 300) (tb62_sound fu) (fun fn body hf hb => ?_) (fun R args s K r h => ?_) (fun R args s K r h => ?_)
  · have hc : body = c63 := by
      have h1 : Try.prog.funcs[63]? = some Try.f63 := rfl
      rw [h1] at hf; cases hf
      have h2 : Try.f63.body = some c63 := rfl
      rw [h2] at hb; cases hb; rfl
    subst hc
    exact SoundPc.none _ _ _
  · unfold t63 at h; split at h
    · rfl
    · cases h
  · unfold t63 at h; split at h
    case h_2 => cases h
    split at h
    case h_2 => cases h
    rename_i hq
    have hq := FT.sames_eq _ _ hq
    subst hq
    split at h
    case h_2 => cases h
    rename_i hq
    have hq := FT.sames_eq _ _ hq
    subst hq
    exact (e63 R K fu _ _ _).symm.trans h

noncomputable def tb63 (fu : Nat) : FuncId → Option (Bool × ToldF) := fun f => match Nat.beq f 63 with
  | true => some (false, ghF [.fzP 0 [1] ft3, .fzP 0 [2] ft4] (t63 fu))
  | false => (tb62 fu) f
theorem tb63_sound (fu : Nat) : SoundF' Try.prog (tb63 fu) := by
  intro f own told h
  unfold tb63 at h
  split at h
  · rename_i hb
    cases h
    have := Nat.eq_of_beq_eq_true hb
    subst this
    exact ghF_sound (s63 fu)
  · exact (tb62_sound fu) f own told h

end Go.Proofs.Ytdoikghgblohjaa.V

/- Printed by ugen: daisychain/client.New -/
namespace Go.Proofs.Ytdoikghgblohjaa.V
set_option maxRecDepth 100000


noncomputable def c17 : Code := match Try.f17.body with | some c => c | none => .skip

noncomputable def F17 {R : Type} (fu : Nat) (id : Int) (k0 : Option R) (k1 : Option R) : Option R :=
  bif decide (id < 1) then (k0) else bif decide (60 < id) then (k0) else (k1)

noncomputable def pc17 (fu : Nat) : Nat → Option ToldP := fun _ => none
noncomputable def t17 (fu : Nat) : ToldF := fun _ args s K => match args, s with
  | [.int .i64 id], [] => F17 fu id (K (.nilptr) []) (K (.ptr 0 0) [.obj [.int .i64 (id), .own 1, .bool (false)], .row ft7 ([])])
  | _, _ => none

theorem e17 (R : Type) (K : UV → USt → Option R) (fu : Nat) (id : Int) :
    F17 fu id (K (.nilptr) []) (K (.ptr 0 0) [.obj [.int .i64 (id), .own 1, .bool (false)], .row ft7 ([])]) = ufun Try.prog ⟨(tb63 fu), pc17 fu⟩ 300 17 [.int .i64 id] [] (funK 0 [.gc, .ownC 0 1 ft7, .gc] K) := by kernel_rfl

theorem s17 (fu : Nat) : Tells Try.prog 17 (t17 fu) := by
  refine ufun_sound (T := ⟨(tb63 fu), pc17 fu⟩) (m := 0) (gout := [.gc, .ownC 0 1 ft7, .gc]) (k := 300) (tb63_sound fu) (fun fn body hf hb => ?_) (fun R args s K r h => ?_) (fun R args s K r h => ?_)
  · have hc : body = c17 := by
      have h1 : Try.prog.funcs[17]? = some Try.f17 := rfl
      rw [h1] at hf; cases hf
      have h2 : Try.f17.body = some c17 := rfl
      rw [h2] at hb; cases hb; rfl
    subst hc
    exact SoundPc.none _ _ _
  · unfold t17 at h; split at h
    · rfl
    · cases h
  · unfold t17 at h; split at h
    case h_2 => cases h
    exact (e17 R K fu _).symm.trans h

noncomputable def tb17 (fu : Nat) : FuncId → Option (Bool × ToldF) := fun f => match Nat.beq f 17 with
  | true => some (false, ghF [] (t17 fu))
  | false => (tb63 fu) f
theorem tb17_sound (fu : Nat) : SoundF' Try.prog (tb17 fu) := by
  intro f own told h
  unfold tb17 at h
  split at h
  · rename_i hb
    cases h
    have := Nat.eq_of_beq_eq_true hb
    subst this
    exact ghF_sound (s17 fu)
  · exact (tb63_sound fu) f own told h

end Go.Proofs.Ytdoikghgblohjaa.V

/- Printed by ugen: (*daisychain/client.Client).Id -/
namespace Go.Proofs.Ytdoikghgblohjaa.V
set_option maxRecDepth 100000


noncomputable def c29 : Code := match Try.f29.body with | some c => c | none => .skip

noncomputable def F29 {R : Type} (fu : Nat) (c_id : Int) (c_l : List (List D)) (c_open : Bool) (k0 : Option R) : Option R :=
  (k0)

noncomputable def pc29 (fu : Nat) : Nat → Option ToldP := fun _ => none
noncomputable def t29 (fu : Nat) : ToldF := fun _ args s K => match args, s with
  | [.ptr 0 0], [.obj [.int .i64 c_id, .own 1, .bool c_open], .row zq0 c_l] => (match FT.sames zq0 ft7 with | true => F29 fu c_id c_l c_open (K (.int .i64 (c_id)) [.obj [.int .i64 (c_id), .own 1, .bool (c_open)], .row ft7 (c_l)]) | false => none)
  | _, _ => none

theorem e29 (R : Type) (K : UV → USt → Option R) (fu : Nat) (c_id : Int) (c_l : List (List D)) (c_open : Bool) :
    F29 fu c_id c_l c_open (K (.int .i64 (c_id)) [.obj [.int .i64 (c_id), .own 1, .bool (c_open)], .row ft7 (c_l)]) = ufun Try.prog ⟨(tb17 fu), pc29 fu⟩ 300 29 [.ptr 0 0] [.obj [.int .i64 c_id, .own 1, .bool c_open], .row ft7 c_l] (funK 2 [.gc, .ownC 0 1 ft7, .gc] K) := by kernel_rfl

theorem s29 (fu : Nat) : Tells Try.prog 29 (t29 fu) := by
  refine ufun_sound (T := ⟨(tb17 fu), pc29 fu⟩) (m := 2) (gout := [.gc, .ownC 0 1 ft7, .gc]) (k := 300) (tb17_sound fu) (fun fn body hf hb => ?_) (fun R args s K r h => ?_) (fun R args s K r h => ?_)
  · have hc : body = c29 := by
      have h1 : Try.prog.funcs[29]? = some Try.f29 := rfl
      rw [h1] at hf; cases hf
      have h2 : Try.f29.body = some c29 := rfl
      rw [h2] at hb; cases hb; rfl
    subst hc
    exact SoundPc.none _ _ _
  · unfold t29 at h; split at h
    · rfl
    · cases h
  · unfold t29 at h; split at h
    case h_2 => cases h
    split at h
    case h_2 => cases h
    rename_i hq
    have hq := FT.sames_eq _ _ hq
    subst hq
    exact (e29 R K fu _ _ _).symm.trans h

noncomputable def tb29 (fu : Nat) : FuncId → Option (Bool × ToldF) := fun f => match Nat.beq f 29 with
  | true => some (false, ghF [.gc, .ownC 0 1 ft7, .gc] (t29 fu))
  | false => (tb17 fu) f
theorem tb29_sound (fu : Nat) : SoundF' Try.prog (tb29 fu) := by
  intro f own told h
  unfold tb29 at h
  split at h
  · rename_i hb
    cases h
    have := Nat.eq_of_beq_eq_true hb
    subst this
    exact ghF_sound (s29 fu)
  · exact (tb17_sound fu) f own told h

end Go.Proofs.Ytdoikghgblohjaa.V

/- Printed by ugen: (*daisychain/client.Client).GiveUp -/
namespace Go.Proofs.Ytdoikghgblohjaa.V
set_option maxRecDepth 100000


noncomputable def c24 : Code := match Try.f24.body with | some c => c | none => .skip

noncomputable def F24 {R : Type} (fu : Nat) (c_id : Int) (c_l : List (List D)) (c_open : Bool) (k0 : Option R) : Option R :=
  (k0)

noncomputable def pc24 (fu : Nat) : Nat → Option ToldP := fun _ => none
noncomputable def t24 (fu : Nat) : ToldF := fun _ args s K => match args, s with
  | [.ptr 0 0], [.obj [.int .i64 c_id, .own 1, .bool c_open], .row zq0 c_l] => (match FT.sames zq0 ft7 with | true => F24 fu c_id c_l c_open (K (.bool (c_open)) [.obj [.int .i64 (c_id), .own 1, .bool (false)], .row ft7 (c_l)]) | false => none)
  | _, _ => none

theorem e24 (R : Type) (K : UV → USt → Option R) (fu : Nat) (c_id : Int) (c_l : List (List D)) (c_open : Bool) :
    F24 fu c_id c_l c_open (K (.bool (c_open)) [.obj [.int .i64 (c_id), .own 1, .bool (false)], .row ft7 (c_l)]) = ufun Try.prog ⟨(tb29 fu), pc24 fu⟩ 300 24 [.ptr 0 0] [.obj [.int .i64 c_id, .own 1, .bool c_open], .row ft7 c_l] (funK 2 [.gc, .ownC 0 1 ft7, .gc] K) := by kernel_rfl

theorem s24 (fu : Nat) : Tells Try.prog 24 (t24 fu) := by
  refine ufun_sound (T := ⟨(tb29 fu), pc24 fu⟩) (m := 2) (gout := [.gc, .ownC 0 1 ft7, .gc]) (k := 300) (tb29_sound fu) (fun fn body hf hb => ?_) (fun R args s K r h => ?_) (fun R args s K r h => ?_)
  · have hc : body = c24 := by
      have h1 : Try.prog.funcs[24]? = some Try.f24 := rfl
      rw [h1] at hf; cases hf
      have h2 : Try.f24.body = some c24 := rfl
      rw [h2] at hb; cases hb; rfl
    subst hc
    exact SoundPc.none _ _ _
  · unfold t24 at h; split at h
    · rfl
    · cases h
  · unfold t24 at h; split at h
    case h_2 => cases h
    split at h
    case h_2 => cases h
    rename_i hq
    have hq := FT.sames_eq _ _ hq
    subst hq
    exact (e24 R K fu _ _ _).symm.trans h

noncomputable def tb24 (fu : Nat) : FuncId → Option (Bool × ToldF) := fun f => match Nat.beq f 24 with
  | true => some (false, ghF [.gc, .ownC 0 1 ft7, .gc] (t24 fu))
  | false => (tb29 fu) f
theorem tb24_sound (fu : Nat) : SoundF' Try.prog (tb24 fu) := by
  intro f own told h
  unfold tb24 at h
  split at h
  · rename_i hb
    cases h
    have := Nat.eq_of_beq_eq_true hb
    subst this
    exact ghF_sound (s24 fu)
  · exact (tb29_sound fu) f own told h

end Go.Proofs.Ytdoikghgblohjaa.V

/- Printed by ugen: (*daisychain/client.Client).Begin -/
namespace Go.Proofs.Ytdoikghgblohjaa.V
set_option maxRecDepth 100000


noncomputable def c18 : Code := match Try.f18.body with | some c => c | none => .skip

noncomputable def F18 {R : Type} (fu : Nat) (now : Int) (cmd : List D) (c_id : Int) (c_l : List (List D)) (c_open : Bool) (k0 : Option R) (k1 : (List D) → (List (List D)) → Option R) : Option R :=
  bif c_open then (k0) else F62 fu [D.int (cell 0 cmd).toInt, D.int (cell 1 cmd).toInt, D.int (cell 2 cmd).toInt, D.str (cell 3 cmd).toStr, D.int (cell 4 cmd).toInt, D.int (cell 5 cmd).toInt, D.int (cell 6 cmd).toInt, D.int (cell 7 cmd).toInt, D.int (cell 8 cmd).toInt, D.str (cell 9 cmd).toStr, D.bool (cell 10 cmd).toBool, D.str (cell 11 cmd).toStr, D.str (cell 12 cmd).toStr, D.str (cell 13 cmd).toStr, D.str (cell 14 cmd).toStr, D.row (cell 15 cmd).toRows, D.int (cell 16 cmd).toInt, D.int (cell 17 cmd).toInt] fun o0 => bif fits (c_l.length + 1) 288 then F62 fu [D.int c_id, D.int (IntKind.i64.wrap (ofN c_l.length + 1)), D.int (cell 2 o0).toInt, D.str (cell 3 o0).toStr, D.int (cell 4 o0).toInt, D.int (cell 5 o0).toInt, D.int (cell 6 o0).toInt, D.int (cell 7 o0).toInt, D.int (cell 8 o0).toInt, D.str (cell 9 o0).toStr, D.bool (cell 10 o0).toBool, D.str (cell 11 o0).toStr, D.str (cell 12 o0).toStr, D.str (cell 13 o0).toStr, D.str (cell 14 o0).toStr, D.row (cell 15 o0).toRows, D.int (cell 16 o0).toInt, D.int (cell 17 o0).toInt] fun o1 => (k1 o1 (c_l ++ [[D.int c_id, D.int (IntKind.i64.wrap (ofN c_l.length + 1)), D.int (cell 2 o0).toInt, D.str (cell 3 o0).toStr, D.int (cell 4 o0).toInt, D.int (cell 5 o0).toInt, D.int (cell 6 o0).toInt, D.int (cell 7 o0).toInt, D.int (cell 8 o0).toInt, D.str (cell 9 o0).toStr, D.bool (cell 10 o0).toBool, D.str (cell 11 o0).toStr, D.str (cell 12 o0).toStr, D.str (cell 13 o0).toStr, D.str (cell 14 o0).toStr, D.row (cell 15 o0).toRows, D.int (cell 16 o0).toInt, D.int (cell 17 o0).toInt, D.int now, D.int 0, D.bool false, D.int 0, D.nil, D.nil]])) else none

noncomputable def pc18 (fu : Nat) : Nat → Option ToldP := fun _ => none
noncomputable def t18 (fu : Nat) : ToldF := fun _ args s K => match args, s with
  | [.ptr 0 0, .int .i64 now, .agg [.int .i64 q, .int .i64 q1, .int .i64 q2, .str q3, .int .i64 q4, .int .i64 q5, .int .i64 q6, .int .i64 q7, .int .i64 q8, .str q9, .bool q10, .str q11, .str q12, .str q13, .str q14, .fz zq0 q15 false, .int .i64 q16, .int .i64 q17]], [.obj [.int .i64 c_id, .own 1, .bool c_open], .row zq1 c_l] => (match FT.sames zq0 ft2 with | true => (match FT.sames zq1 ft7 with | true => F18 fu now [D.int q, D.int q1, D.int q2, D.str q3, D.int q4, D.int q5, D.int q6, D.int q7, D.int q8, D.str q9, D.bool q10, D.str q11, D.str q12, D.str q13, D.str q14, D.row q15, D.int q16, D.int q17] c_id c_l c_open (K (.tuple [.agg [.int .i64 (0), .int .i64 (0), .int .i64 (0), .str ({ data := #[] }), .int .i64 (0), .int .i64 (0), .int .i64 (0), .int .i64 (0), .int .i64 (0), .str ({ data := #[] }), .bool (false), .str ({ data := #[] }), .str ({ data := #[] }), .str ({ data := #[] }), .str ({ data := #[] }), .fz ft2 ([]) false, .int .i64 (0), .int .i64 (0)], .int .i64 (9)]) [.obj [.int .i64 (c_id), .own 1, .bool (c_open)], .row ft7 (c_l)]) (fun o o1 => K (.tuple [.agg (ofDs 0 ft5 o), .int .i64 (0)]) [.obj [.int .i64 (c_id), .own 2, .bool (true)], .gone, .row ft7 o1]) | false => none) | false => none)
  | _, _ => none

theorem e18 (R : Type) (K : UV → USt → Option R) (fu : Nat) (now : Int) (q : Int) (q1 : Int) (q2 : Int) (q3 : ByteArray) (q4 : Int) (q5 : Int) (q6 : Int) (q7 : Int) (q8 : Int) (q9 : ByteArray) (q10 : Bool) (q11 : ByteArray) (q12 : ByteArray) (q13 : ByteArray) (q14 : ByteArray) (q15 : List (List D)) (q16 : Int) (q17 : Int) (c_id : Int) (c_l : List (List D)) (c_open : Bool) :
    F18 fu now [D.int q, D.int q1, D.int q2, D.str q3, D.int q4, D.int q5, D.int q6, D.int q7, D.int q8, D.str q9, D.bool q10, D.str q11, D.str q12, D.str q13, D.str q14, D.row q15, D.int q16, D.int q17] c_id c_l c_open (K (.tuple [.agg [.int .i64 (0), .int .i64 (0), .int .i64 (0), .str ({ data := #[] }), .int .i64 (0), .int .i64 (0), .int .i64 (0), .int .i64 (0), .int .i64 (0), .str ({ data := #[] }), .bool (false), .str ({ data := #[] }), .str ({ data := #[] }), .str ({ data := #[] }), .str ({ data := #[] }), .fz ft2 ([]) false, .int .i64 (0), .int .i64 (0)], .int .i64 (9)]) [.obj [.int .i64 (c_id), .own 1, .bool (c_open)], .row ft7 (c_l)]) (fun o o1 => K (.tuple [.agg (ofDs 0 ft5 o), .int .i64 (0)]) [.obj [.int .i64 (c_id), .own 2, .bool (true)], .gone, .row ft7 o1]) = ufun Try.prog ⟨(tb24 fu), pc18 fu⟩ 300 18 [.ptr 0 0, .int .i64 now, .agg [.int .i64 q, .int .i64 q1, .int .i64 q2, .str q3, .int .i64 q4, .int .i64 q5, .int .i64 q6, .int .i64 q7, .int .i64 q8, .str q9, .bool q10, .str q11, .str q12, .str q13, .str q14, .fz ft2 q15 false, .int .i64 q16, .int .i64 q17]] [.obj [.int .i64 c_id, .own 1, .bool c_open], .row ft7 c_l] (funK 2 [.fzP 0 [0, 15] ft2, .gc, .ownC 0 1 ft7, .gc] K) := by kernel_rfl

theorem s18 (fu : Nat) : Tells Try.prog 18 (t18 fu) := by
  refine ufun_sound (T := ⟨(tb24 fu), pc18 fu⟩) (m := 2) (gout := [.fzP 0 [0, 15] ft2, .gc, .ownC 0 1 ft7, .gc]) (k := 300) (tb24_sound fu) (fun fn body hf hb => ?_) (fun R args s K r h => ?_) (fun R args s K r h => ?_)
  · have hc : body = c18 := by
      have h1 : Try.prog.funcs[18]? = some Try.f18 := rfl
      rw [h1] at hf; cases hf
      have h2 : Try.f18.body = some c18 := rfl
      rw [h2] at hb; cases hb; rfl
    subst hc
    exact SoundPc.none _ _ _
  · unfold t18 at h; split at h
    · rfl
    · cases h
  · unfold t18 at h; split at h
    case h_2 => cases h
    split at h
    case h_2 => cases h
    rename_i hq
    have hq := FT.sames_eq _ _ hq
    subst hq
    split at h
    case h_2 => cases h
    rename_i hq
    have hq := FT.sames_eq _ _ hq
    subst hq
    exact (e18 R K fu _ _ _ _ _ _ _ _ _ _ _ _ _ _ _ _ _ _ _ _ _ _).symm.trans h

noncomputable def tb18 (fu : Nat) : FuncId → Option (Bool × ToldF) := fun f => match Nat.beq f 18 with
  | true => some (false, ghF [.fzP 2 [15] ft2, .gc, .ownC 0 1 ft7, .gc] (t18 fu))
  | false => (tb24 fu) f
theorem tb18_sound (fu : Nat) : SoundF' Try.prog (tb18 fu) := by
  intro f own told h
  unfold tb18 at h
  split at h
  · rename_i hb
    cases h
    have := Nat.eq_of_beq_eq_true hb
    subst this
    exact ghF_sound (s18 fu)
  · exact (tb24_sound fu) f own told h

end Go.Proofs.Ytdoikghgblohjaa.V

/- Printed by ugen: (*daisychain/client.Client).End -/
namespace Go.Proofs.Ytdoikghgblohjaa.V
set_option maxRecDepth 100000


noncomputable def c19 : Code := match Try.f19.body with | some c => c | none => .skip

noncomputable def F19 {R : Type} (fu : Nat) (now : Int) (req : Int) (a : List D) (c_id : Int) (c_l : List (List D)) (c_open : Bool) (k0 : Bool → Bool → (List (List D)) → Option R) : Option R :=
  bif !c_open then (k0 false c_open c_l) else bif !decide (req = ofN c_l.length) then (k0 false c_open c_l) else bif within (IntKind.i64.wrap (ofN c_l.length - 1)) c_l.length then F63 fu [D.int (cell 0 a).toInt, D.row (cell 1 a).toRows, D.row (cell 2 a).toRows] fun o0 => (k0 true false (putAt (putAt (putAt c_l (IntKind.i64.wrap (ofN c_l.length - 1)).toNat 19 [D.int now]) (IntKind.i64.wrap (ofN c_l.length - 1)).toNat 20 [D.bool true]) (IntKind.i64.wrap (ofN c_l.length - 1)).toNat 21 [D.int (cell 0 o0).toInt, D.row (cell 1 o0).toRows, D.row (cell 2 o0).toRows])) else none

noncomputable def pc19 (fu : Nat) : Nat → Option ToldP := fun _ => none
noncomputable def t19 (fu : Nat) : ToldF := fun _ args s K => match args, s with
  | [.ptr 0 0, .int .i64 now, .int .i64 req, .agg [.int .i64 q, .fz zq0 q1 false, .fz zq1 q2 false]], [.obj [.int .i64 c_id, .own 1, .bool c_open], .row zq2 c_l] => (match FT.sames zq0 ft3 with | true => (match FT.sames zq1 ft4 with | true => (match FT.sames zq2 ft7 with | true => F19 fu now req [D.int q, D.row q1, D.row q2] c_id c_l c_open (fun o o1 o2 => K (.bool o) [.obj [.int .i64 (c_id), .own 1, .bool o1], .row ft7 o2]) | false => none) | false => none) | false => none)
  | _, _ => none

theorem e19 (R : Type) (K : UV → USt → Option R) (fu : Nat) (now : Int) (req : Int) (q : Int) (q1 : List (List D)) (q2 : List (List D)) (c_id : Int) (c_l : List (List D)) (c_open : Bool) :
    F19 fu now req [D.int q, D.row q1, D.row q2] c_id c_l c_open (fun o o1 o2 => K (.bool o) [.obj [.int .i64 (c_id), .own 1, .bool o1], .row ft7 o2]) = ufun Try.prog ⟨(tb18 fu), pc19 fu⟩ 300 19 [.ptr 0 0, .int .i64 now, .int .i64 req, .agg [.int .i64 q, .fz ft3 q1 false, .fz ft4 q2 false]] [.obj [.int .i64 c_id, .own 1, .bool c_open], .row ft7 c_l] (funK 2 [.gc, .ownC 0 1 ft7, .gc] K) := by kernel_rfl

theorem s19 (fu : Nat) : Tells Try.prog 19 (t19 fu) := by
  refine ufun_sound (T := ⟨(tb18 fu), pc19 fu⟩) (m := 2) (gout := [.gc, .ownC 0 1 ft7, .gc]) (k := 300) (tb18_sound fu) (fun fn body hf hb => ?_) (fun R args s K r h => ?_) (fun R args s K r h => ?_)
  · have hc : body = c19 := by
      have h1 : Try.prog.funcs[19]? = some Try.f19 := rfl
      rw [h1] at hf; cases hf
      have h2 : Try.f19.body = some c19 := rfl
      rw [h2] at hb; cases hb; rfl
    subst hc
    exact SoundPc.none _ _ _
  · unfold t19 at h; split at h
    · rfl
    · cases h
  · unfold t19 at h; split at h
    case h_2 => cases h
    split at h
    case h_2 => cases h
    rename_i hq
    have hq := FT.sames_eq _ _ hq
    subst hq
    split at h
    case h_2 => cases h
    rename_i hq
    have hq := FT.sames_eq _ _ hq
    subst hq
    split at h
    case h_2 => cases h
    rename_i hq
    have hq := FT.sames_eq _ _ hq
    subst hq
    exact (e19 R K fu _ _ _ _ _ _ _ _).symm.trans h

noncomputable def tb19 (fu : Nat) : FuncId → Option (Bool × ToldF) := fun f => match Nat.beq f 19 with
  | true => some (false, ghF [.fzP 3 [1] ft3, .fzP 3 [2] ft4, .gc, .ownC 0 1 ft7, .gc] (t19 fu))
  | false => (tb18 fu) f
theorem tb19_sound (fu : Nat) : SoundF' Try.prog (tb19 fu) := by
  intro f own told h
  unfold tb19 at h
  split at h
  · rename_i hb
    cases h
    have := Nat.eq_of_beq_eq_true hb
    subst this
    exact ghF_sound (s19 fu)
  · exact (tb18_sound fu) f own told h

end Go.Proofs.Ytdoikghgblohjaa.V

/- Printed by ugen: (*daisychain/client.Client).Calls -/
namespace Go.Proofs.Ytdoikghgblohjaa.V
set_option maxRecDepth 100000


noncomputable def c20 : Code := match Try.f20.body with | some c => c | none => .skip
theorem a20_58 : codeAt c20 58 = some (.loop (loopBody (codeAt c20 58))) := by kernel_rfl
noncomputable def F20_58 {R : Type} (fu : Nat) (x : Int) (x2 : List (List D)) : Nat → Int → (List (List D)) → ((List (List D)) → Option R) → Option R
  | 0, _, _, _ => none
  | n + 1, x1, out, k0 => bif decide (x1 < x) then bif within x1 x2.length then F62 fu [D.int (cell 0 (elem x1.toNat x2)).toInt, D.int (cell 1 (elem x1.toNat x2)).toInt, D.int (cell 2 (elem x1.toNat x2)).toInt, D.str (cell 3 (elem x1.toNat x2)).toStr, D.int (cell 4 (elem x1.toNat x2)).toInt, D.int (cell 5 (elem x1.toNat x2)).toInt, D.int (cell 6 (elem x1.toNat x2)).toInt, D.int (cell 7 (elem x1.toNat x2)).toInt, D.int (cell 8 (elem x1.toNat x2)).toInt, D.str (cell 9 (elem x1.toNat x2)).toStr, D.bool (cell 10 (elem x1.toNat x2)).toBool, D.str (cell 11 (elem x1.toNat x2)).toStr, D.str (cell 12 (elem x1.toNat x2)).toStr, D.str (cell 13 (elem x1.toNat x2)).toStr, D.str (cell 14 (elem x1.toNat x2)).toStr, D.row (cell 15 (elem x1.toNat x2)).toRows, D.int (cell 16 (elem x1.toNat x2)).toInt, D.int (cell 17 (elem x1.toNat x2)).toInt] fun o0 => F63 fu [D.int (cell 21 (elem x1.toNat x2)).toInt, D.row (cell 22 (elem x1.toNat x2)).toRows, D.row (cell 23 (elem x1.toNat x2)).toRows] fun o1 => bif fits (out.length + 1) 288 then (F20_58 fu x x2 n (IntKind.i64.wrap (x1 + 1)) (out ++ [[D.int (cell 0 o0).toInt, D.int (cell 1 o0).toInt, D.int (cell 2 o0).toInt, D.str (cell 3 o0).toStr, D.int (cell 4 o0).toInt, D.int (cell 5 o0).toInt, D.int (cell 6 o0).toInt, D.int (cell 7 o0).toInt, D.int (cell 8 o0).toInt, D.str (cell 9 o0).toStr, D.bool (cell 10 o0).toBool, D.str (cell 11 o0).toStr, D.str (cell 12 o0).toStr, D.str (cell 13 o0).toStr, D.str (cell 14 o0).toStr, D.row (cell 15 o0).toRows, D.int (cell 16 o0).toInt, D.int (cell 17 o0).toInt, D.int (cell 18 (elem x1.toNat x2)).toInt, D.int (cell 19 (elem x1.toNat x2)).toInt, D.bool (cell 20 (elem x1.toNat x2)).toBool, D.int (cell 0 o1).toInt, D.row (cell 1 o1).toRows, D.row (cell 2 o1).toRows]]) k0) else none else none else (k0 out)

noncomputable def t20_58 (fu n : Nat) : ToldP := fun _ e s K => match e, s with
  | [.undef, .undef, .undef, .own 2, .undef, .undef, .undef, .undef, .undef, .own 1, .int .i64 x, .int .i64 x1], [.obj [.int .i64 y, .own 1, .bool y1], .row zq0 x2, .row zq1 out] => (match FT.sames zq0 ft7 with | true => (match FT.sames zq1 ft7 with | true => F20_58 fu x x2 n x1 out (fun o => K (.exit 0) [.undef, .undef, .undef, .own 2] [.obj [.int .i64 (y), .own 1, .bool (y1)], .row ft7 (x2), .row ft7 o]) | false => none) | false => none)
  | _, _ => none

noncomputable def pc20_58 (fu : Nat) : Nat → Option ToldP := fun _ => none
theorem e20_58 (fu n : Nat) (R : Type) (K : VExit → UEnv → USt → Option R) (x : Int) (x1 : Int) (y : Int) (y1 : Bool) (x2 : List (List D)) (out : List (List D)) :
    F20_58 fu x x2 (n + 1) x1 out (fun o => K (.exit 0) [.undef, .undef, .undef, .own 2] [.obj [.int .i64 (y), .own 1, .bool (y1)], .row ft7 (x2), .row ft7 o]) = uexec Try.prog (tb19 fu) 300 (pc20_58 fu) 116 (loopBody (codeAt c20 58)) [.undef, .undef, .undef, .own 2, .undef, .undef, .undef, .undef, .undef, .own 1, .int .i64 x, .int .i64 x1] [.obj [.int .i64 y, .own 1, .bool y1], .row ft7 x2, .row ft7 out] (loopK 2 [.live [false, false, false, true, false, false, false, false, false, true, true, true], .ownP 3 [] ft7, .ownP 9 [] ft7, .gc] [.live [false, false, true, true], .gc] (t20_58 fu n) K) := by kernel_rfl

theorem p20_58 (fu : Nat) : SoundPc Try.prog 2 c20 (pc20_58 fu) := SoundPc.none _ _ _
theorem s20_58 (fu : Nat) : ∀ n, SoundP Try.prog 2 (.loop (loopBody (codeAt c20 58))) (t20_58 fu n) := by
  refine loop_sound (gin := [.live [false, false, false, true, false, false, false, false, false, true, true, true], .ownP 3 [] ft7, .ownP 9 [] ft7, .gc]) (gout := [.live [false, false, true, true], .gc]) (k := 300) (tb19_sound fu) (p20_58 fu) (by decide) a20_58 (fun R e s K => ?_) (fun n R e s K r h => ?_)
  · unfold t20_58; repeat' split
    all_goals rfl
  · unfold t20_58 at h; split at h
    case h_2 => cases h
    split at h
    case h_2 => cases h
    rename_i hq
    have hq := FT.sames_eq _ _ hq
    subst hq
    split at h
    case h_2 => cases h
    rename_i hq
    have hq := FT.sames_eq _ _ hq
    subst hq
    exact (e20_58 fu n R K _ _ _ _ _ _).symm.trans h


noncomputable def F20 {R : Type} (fu : Nat) (c_id : Int) (c_l : List (List D)) (c_open : Bool) (k0 : (List (List D)) → Option R) : Option R :=
  F20_58 fu (ofN c_l.length) c_l fu 0 [] fun o0 => (k0 o0)

noncomputable def pc20 (fu : Nat) : Nat → Option ToldP := fun p => match Nat.beq p 58 with | true => some (ghP 2 [.live [false, false, false, true, false, false, false, false, false, true, true, true], .ownP 3 [] ft7, .ownP 9 [] ft7, .gc] (t20_58 fu fu)) | false => none
noncomputable def t20 (fu : Nat) : ToldF := fun _ args s K => match args, s with
  | [.ptr 0 0], [.obj [.int .i64 c_id, .own 1, .bool c_open], .row zq0 c_l] => (match FT.sames zq0 ft7 with | true => F20 fu c_id c_l c_open (fun o => K (.own 2) [.obj [.int .i64 (c_id), .own 1, .bool (c_open)], .row ft7 (c_l), .row ft7 o]) | false => none)
  | _, _ => none

theorem e20 (R : Type) (K : UV → USt → Option R) (fu : Nat) (c_id : Int) (c_l : List (List D)) (c_open : Bool) :
    F20 fu c_id c_l c_open (fun o => K (.own 2) [.obj [.int .i64 (c_id), .own 1, .bool (c_open)], .row ft7 (c_l), .row ft7 o]) = ufun Try.prog ⟨(tb19 fu), pc20 fu⟩ 300 20 [.ptr 0 0] [.obj [.int .i64 c_id, .own 1, .bool c_open], .row ft7 c_l] (funK 2 [.gc, .ownC 0 1 ft7, .gc] K) := by kernel_rfl

theorem s20 (fu : Nat) : Tells Try.prog 20 (t20 fu) := by
  refine ufun_sound (T := ⟨(tb19 fu), pc20 fu⟩) (m := 2) (gout := [.gc, .ownC 0 1 ft7, .gc]) (k := 300) (tb19_sound fu) (fun fn body hf hb => ?_) (fun R args s K r h => ?_) (fun R args s K r h => ?_)
  · have hc : body = c20 := by
      have h1 : Try.prog.funcs[20]? = some Try.f20 := rfl
      rw [h1] at hf; cases hf
      have h2 : Try.f20.body = some c20 := rfl
      rw [h2] at hb; cases hb; rfl
    subst hc
    exact fun p told h b hb => by
      replace h : pc20 fu p = some told := h
      unfold pc20 at h
      split at h
      · rename_i hp
        cases h
        have := Nat.eq_of_beq_eq_true hp
        subst this
        rw [a20_58] at hb
        cases hb
        exact ghP_sound (s20_58 fu _)
      ·
        cases h

  · unfold t20 at h; split at h
    · rfl
    · cases h
  · unfold t20 at h; split at h
    case h_2 => cases h
    split at h
    case h_2 => cases h
    rename_i hq
    have hq := FT.sames_eq _ _ hq
    subst hq
    exact (e20 R K fu _ _ _).symm.trans h

noncomputable def tb20 (fu : Nat) : FuncId → Option (Bool × ToldF) := fun f => match Nat.beq f 20 with
  | true => some (false, ghF [.gc, .ownC 0 1 ft7, .gc] (t20 fu))
  | false => (tb19 fu) f
theorem tb20_sound (fu : Nat) : SoundF' Try.prog (tb20 fu) := by
  intro f own told h
  unfold tb20 at h
  split at h
  · rename_i hb
    cases h
    have := Nat.eq_of_beq_eq_true hb
    subst this
    exact ghF_sound (s20 fu)
  · exact (tb19_sound fu) f own told h

end Go.Proofs.Ytdoikghgblohjaa.V

/- Printed by ugen: (*daisychain/client.Client).Open -/
namespace Go.Proofs.Ytdoikghgblohjaa.V
set_option maxRecDepth 100000


noncomputable def c25 : Code := match Try.f25.body with | some c => c | none => .skip

noncomputable def F25 {R : Type} (fu : Nat) (c_id : Int) (c_l : List (List D)) (c_open : Bool) (k0 : (List D) → Bool → Option R) : Option R :=
  bif !c_open then (k0 ([D.int 0, D.int 0, D.int 0, D.str ({ data := #[] }), D.int 0, D.int 0, D.int 0, D.int 0, D.int 0, D.str ({ data := #[] }), D.bool false, D.str ({ data := #[] }), D.str ({ data := #[] }), D.str ({ data := #[] }), D.str ({ data := #[] }), D.row [], D.int 0, D.int 0]) false) else bif within (IntKind.i64.wrap (ofN c_l.length - 1)) c_l.length then F62 fu [D.int (cell 0 (elem (IntKind.i64.wrap (ofN c_l.length - 1)).toNat c_l)).toInt, D.int (cell 1 (elem (IntKind.i64.wrap (ofN c_l.length - 1)).toNat c_l)).toInt, D.int (cell 2 (elem (IntKind.i64.wrap (ofN c_l.length - 1)).toNat c_l)).toInt, D.str (cell 3 (elem (IntKind.i64.wrap (ofN c_l.length - 1)).toNat c_l)).toStr, D.int (cell 4 (elem (IntKind.i64.wrap (ofN c_l.length - 1)).toNat c_l)).toInt, D.int (cell 5 (elem (IntKind.i64.wrap (ofN c_l.length - 1)).toNat c_l)).toInt, D.int (cell 6 (elem (IntKind.i64.wrap (ofN c_l.length - 1)).toNat c_l)).toInt, D.int (cell 7 (elem (IntKind.i64.wrap (ofN c_l.length - 1)).toNat c_l)).toInt, D.int (cell 8 (elem (IntKind.i64.wrap (ofN c_l.length - 1)).toNat c_l)).toInt, D.str (cell 9 (elem (IntKind.i64.wrap (ofN c_l.length - 1)).toNat c_l)).toStr, D.bool (cell 10 (elem (IntKind.i64.wrap (ofN c_l.length - 1)).toNat c_l)).toBool, D.str (cell 11 (elem (IntKind.i64.wrap (ofN c_l.length - 1)).toNat c_l)).toStr, D.str (cell 12 (elem (IntKind.i64.wrap (ofN c_l.length - 1)).toNat c_l)).toStr, D.str (cell 13 (elem (IntKind.i64.wrap (ofN c_l.length - 1)).toNat c_l)).toStr, D.str (cell 14 (elem (IntKind.i64.wrap (ofN c_l.length - 1)).toNat c_l)).toStr, D.row (cell 15 (elem (IntKind.i64.wrap (ofN c_l.length - 1)).toNat c_l)).toRows, D.int (cell 16 (elem (IntKind.i64.wrap (ofN c_l.length - 1)).toNat c_l)).toInt, D.int (cell 17 (elem (IntKind.i64.wrap (ofN c_l.length - 1)).toNat c_l)).toInt] fun o0 => (k0 o0 true) else none

noncomputable def pc25 (fu : Nat) : Nat → Option ToldP := fun _ => none
noncomputable def t25 (fu : Nat) : ToldF := fun _ args s K => match args, s with
  | [.ptr 0 0], [.obj [.int .i64 c_id, .own 1, .bool c_open], .row zq0 c_l] => (match FT.sames zq0 ft7 with | true => F25 fu c_id c_l c_open (fun o o1 => K (.tuple [.agg (ofDs 0 ft5 o), .bool o1]) [.obj [.int .i64 (c_id), .own 1, .bool (c_open)], .row ft7 (c_l)]) | false => none)
  | _, _ => none

theorem e25 (R : Type) (K : UV → USt → Option R) (fu : Nat) (c_id : Int) (c_l : List (List D)) (c_open : Bool) :
    F25 fu c_id c_l c_open (fun o o1 => K (.tuple [.agg (ofDs 0 ft5 o), .bool o1]) [.obj [.int .i64 (c_id), .own 1, .bool (c_open)], .row ft7 (c_l)]) = ufun Try.prog ⟨(tb20 fu), pc25 fu⟩ 300 25 [.ptr 0 0] [.obj [.int .i64 c_id, .own 1, .bool c_open], .row ft7 c_l] (funK 2 [.fzP 0 [0, 15] ft2, .gc, .ownC 0 1 ft7, .gc] K) := by kernel_rfl

theorem s25 (fu : Nat) : Tells Try.prog 25 (t25 fu) := by
  refine ufun_sound (T := ⟨(tb20 fu), pc25 fu⟩) (m := 2) (gout := [.fzP 0 [0, 15] ft2, .gc, .ownC 0 1 ft7, .gc]) (k := 300) (tb20_sound fu) (fun fn body hf hb => ?_) (fun R args s K r h => ?_) (fun R args s K r h => ?_)
  · have hc : body = c25 := by
      have h1 : Try.prog.funcs[25]? = some Try.f25 := rfl
      rw [h1] at hf; cases hf
      have h2 : Try.f25.body = some c25 := rfl
      rw [h2] at hb; cases hb; rfl
    subst hc
    exact SoundPc.none _ _ _
  · unfold t25 at h; split at h
    · rfl
    · cases h
  · unfold t25 at h; split at h
    case h_2 => cases h
    split at h
    case h_2 => cases h
    rename_i hq
    have hq := FT.sames_eq _ _ hq
    subst hq
    exact (e25 R K fu _ _ _).symm.trans h

noncomputable def tb25 (fu : Nat) : FuncId → Option (Bool × ToldF) := fun f => match Nat.beq f 25 with
  | true => some (false, ghF [.gc, .ownC 0 1 ft7, .gc] (t25 fu))
  | false => (tb20 fu) f
theorem tb25_sound (fu : Nat) : SoundF' Try.prog (tb25 fu) := by
  intro f own told h
  unfold tb25 at h
  split at h
  · rename_i hb
    cases h
    have := Nat.eq_of_beq_eq_true hb
    subst this
    exact ghF_sound (s25 fu)
  · exact (tb20_sound fu) f own told h

end Go.Proofs.Ytdoikghgblohjaa.V

/- Printed by ugen: daisychain/daisychainlaw08.Attr -/
namespace Go.Proofs.Ytdoikghgblohjaa.V
set_option maxRecDepth 100000

abbrev ft8 : List FT := [FT.int IntKind.i64, FT.int IntKind.i64, FT.int IntKind.i64, FT.int IntKind.i64, FT.int IntKind.i64, FT.str, FT.bool]

noncomputable def c64 : Code := match Try.f64.body with | some c => c | none => .skip

noncomputable def F64 {R : Type} (fu : Nat) (a : List D) (k0 : (List D) → Option R) : Option R :=
  (k0 a)

noncomputable def pc64 (fu : Nat) : Nat → Option ToldP := fun _ => none
noncomputable def t64 (fu : Nat) : ToldF := fun _ args s K => match args, s with
  | [.agg [.int .i64 q, .int .i64 q1, .int .i64 q2, .int .i64 q3, .int .i64 q4, .str q5, .bool q6]], [] => F64 fu [D.int q, D.int q1, D.int q2, D.int q3, D.int q4, D.str q5, D.bool q6] (fun o => K (.agg (ofDs 0 ft8 o)) [])
  | _, _ => none

theorem e64 (R : Type) (K : UV → USt → Option R) (fu : Nat) (q : Int) (q1 : Int) (q2 : Int) (q3 : Int) (q4 : Int) (q5 : ByteArray) (q6 : Bool) :
    F64 fu [D.int q, D.int q1, D.int q2, D.int q3, D.int q4, D.str q5, D.bool q6] (fun o => K (.agg (ofDs 0 ft8 o)) []) = ufun Try.prog ⟨(tb25 fu), pc64 fu⟩ 300 64 [.agg [.int .i64 q, .int .i64 q1, .int .i64 q2, .int .i64 q3, .int .i64 q4, .str q5, .bool q6]] [] (funK 0 [.gc] K) := by kernel_rfl

theorem s64 (fu : Nat) : Tells Try.prog 64 (t64 fu) := by
  refine ufun_sound (T := ⟨(tb25 fu), pc64 fu⟩) (m := 0) (gout := [.gc]) (k := 300) (tb25_sound fu) (fun fn body hf hb => ?_) (fun R args s K r h => ?_) (fun R args s K r h => ?_)
  · have hc : body = c64 := by
      have h1 : Try.prog.funcs[64]? = some Try.f64 := rfl
      rw [h1] at hf; cases hf
      have h2 : Try.f64.body = some c64 := rfl
      rw [h2] at hb; cases hb; rfl
    subst hc
    exact SoundPc.none _ _ _
  · unfold t64 at h; split at h
    · rfl
    · cases h
  · unfold t64 at h; split at h
    case h_2 => cases h
    exact (e64 R K fu _ _ _ _ _ _ _).symm.trans h

noncomputable def tb64 (fu : Nat) : FuncId → Option (Bool × ToldF) := fun f => match Nat.beq f 64 with
  | true => some (false, ghF [] (t64 fu))
  | false => (tb25 fu) f
theorem tb64_sound (fu : Nat) : SoundF' Try.prog (tb64 fu) := by
  intro f own told h
  unfold tb64 at h
  split at h
  · rename_i hb
    cases h
    have := Nat.eq_of_beq_eq_true hb
    subst this
    exact ghF_sound (s64 fu)
  · exact (tb25_sound fu) f own told h

end Go.Proofs.Ytdoikghgblohjaa.V

/- Printed by ugen: daisychain/daisychainlaw09.Cmd -/
namespace Go.Proofs.Ytdoikghgblohjaa.V
set_option maxRecDepth 100000


noncomputable def c27 : Code := match Try.f27.body with | some c => c | none => .skip

noncomputable def F27 {R : Type} (fu : Nat) (c : List D) (k0 : (List D) → Option R) : Option R :=
  F64 fu [D.int (cell 4 c).toInt, D.int (cell 5 c).toInt, D.int (cell 6 c).toInt, D.int (cell 7 c).toInt, D.int (cell 8 c).toInt, D.str (cell 9 c).toStr, D.bool (cell 10 c).toBool] fun o0 => (k0 [D.int ((cell 0 c).toInt), D.int ((cell 1 c).toInt), D.int ((cell 2 c).toInt), D.str ((cell 3 c).toStr), D.int ((cell 0 o0).toInt), D.int ((cell 1 o0).toInt), D.int ((cell 2 o0).toInt), D.int ((cell 3 o0).toInt), D.int ((cell 4 o0).toInt), D.str ((cell 5 o0).toStr), D.bool ((cell 6 o0).toBool), D.str ((cell 11 c).toStr), D.str ((cell 12 c).toStr), D.str ((cell 13 c).toStr), D.str ((cell 14 c).toStr), D.row ((cell 15 c).toRows), D.int ((cell 16 c).toInt), D.int ((cell 17 c).toInt)])

noncomputable def pc27 (fu : Nat) : Nat → Option ToldP := fun _ => none
noncomputable def t27 (fu : Nat) : ToldF := fun _ args s K => match args, s with
  | [.agg [.int .i64 q, .int .i64 q1, .int .i64 q2, .str q3, .int .i64 q4, .int .i64 q5, .int .i64 q6, .int .i64 q7, .int .i64 q8, .str q9, .bool q10, .str q11, .str q12, .str q13, .str q14, .fz zq0 q15 false, .int .i64 q16, .int .i64 q17]], [] => (match FT.sames zq0 ft2 with | true => F27 fu [D.int q, D.int q1, D.int q2, D.str q3, D.int q4, D.int q5, D.int q6, D.int q7, D.int q8, D.str q9, D.bool q10, D.str q11, D.str q12, D.str q13, D.str q14, D.row q15, D.int q16, D.int q17] (fun o => K (.agg (ofDs 0 ft5 o)) []) | false => none)
  | _, _ => none

theorem e27 (R : Type) (K : UV → USt → Option R) (fu : Nat) (q : Int) (q1 : Int) (q2 : Int) (q3 : ByteArray) (q4 : Int) (q5 : Int) (q6 : Int) (q7 : Int) (q8 : Int) (q9 : ByteArray) (q10 : Bool) (q11 : ByteArray) (q12 : ByteArray) (q13 : ByteArray) (q14 : ByteArray) (q15 : List (List D)) (q16 : Int) (q17 : Int) :
    F27 fu [D.int q, D.int q1, D.int q2, D.str q3, D.int q4, D.int q5, D.int q6, D.int q7, D.int q8, D.str q9, D.bool q10, D.str q11, D.str q12, D.str q13, D.str q14, D.row q15, D.int q16, D.int q17] (fun o => K (.agg (ofDs 0 ft5 o)) []) = ufun Try.prog ⟨(tb64 fu), pc27 fu⟩ 300 27 [.agg [.int .i64 q, .int .i64 q1, .int .i64 q2, .str q3, .int .i64 q4, .int .i64 q5, .int .i64 q6, .int .i64 q7, .int .i64 q8, .str q9, .bool q10, .str q11, .str q12, .str q13, .str q14, .fz ft2 q15 false, .int .i64 q16, .int .i64 q17]] [] (funK 0 [.fzP 0 [15] ft2, .gc] K) := by kernel_rfl

theorem s27 (fu : Nat) : Tells Try.prog 27 (t27 fu) := by
  refine ufun_sound (T := ⟨(tb64 fu), pc27 fu⟩) (m := 0) (gout := [.fzP 0 [15] ft2, .gc]) (k := 300) (tb64_sound fu) (fun fn body hf hb => ?_) (fun R args s K r h => ?_) (fun R args s K r h => ?_)
  · have hc : body = c27 := by
      have h1 : Try.prog.funcs[27]? = some Try.f27 := rfl
      rw [h1] at hf; cases hf
      have h2 : Try.f27.body = some c27 := rfl
      rw [h2] at hb; cases hb; rfl
    subst hc
    exact SoundPc.none _ _ _
  · unfold t27 at h; split at h
    · rfl
    · cases h
  · unfold t27 at h; split at h
    case h_2 => cases h
    split at h
    case h_2 => cases h
    rename_i hq
    have hq := FT.sames_eq _ _ hq
    subst hq
    exact (e27 R K fu _ _ _ _ _ _ _ _ _ _ _ _ _ _ _ _ _ _).symm.trans h

noncomputable def tb27 (fu : Nat) : FuncId → Option (Bool × ToldF) := fun f => match Nat.beq f 27 with
  | true => some (false, ghF [.fzP 0 [15] ft2] (t27 fu))
  | false => (tb64 fu) f
theorem tb27_sound (fu : Nat) : SoundF' Try.prog (tb27 fu) := by
  intro f own told h
  unfold tb27 at h
  split at h
  · rename_i hb
    cases h
    have := Nat.eq_of_beq_eq_true hb
    subst this
    exact ghF_sound (s27 fu)
  · exact (tb64_sound fu) f own told h

end Go.Proofs.Ytdoikghgblohjaa.V

/- Printed by ugen: daisychain/daisychainlaw09.Answer -/
namespace Go.Proofs.Ytdoikghgblohjaa.V
set_option maxRecDepth 100000


noncomputable def c23 : Code := match Try.f23.body with | some c => c | none => .skip
theorem a23_58 : codeAt c23 58 = some (.loop (loopBody (codeAt c23 58))) := by kernel_rfl
noncomputable def F23_58 {R : Type} (fu : Nat) (x : List (List D)) (x1 : Int) : Nat → Int → (List (List D)) → ((List (List D)) → Option R) → Option R
  | 0, _, _, _ => none
  | n + 1, x2, y, k0 => bif decide (x2 < x1) then bif within x2 x.length then bif fits (y.length + 1) 64 then (F23_58 fu x x1 n (IntKind.i64.wrap (x2 + 1)) (y ++ [[D.int (cell 0 (elem x2.toNat x)).toInt, D.int (cell 1 (elem x2.toNat x)).toInt, D.str (cell 2 (elem x2.toNat x)).toStr, D.str (cell 3 (elem x2.toNat x)).toStr, D.str (cell 4 (elem x2.toNat x)).toStr]]) k0) else none else none else (k0 y)

noncomputable def t23_58 (fu n : Nat) : ToldP := fun _ e s K => match e, s with
  | [.undef, .undef, .ptr 0 0, .ptr 1 0, .undef, .undef, .undef, .undef, .undef, .undef, .undef, .undef, .fz zq0 x false, .int .i64 x1, .int .i64 x2], [.obj [.int .i64 x3, .nilslice, .nilslice], .obj [.int .i64 out, .fz zq1 out1 false, .own 2], .row zq2 y] => (match FT.sames zq0 ft4 with | true => (match FT.sames zq1 ft3 with | true => (match FT.sames zq2 ft4 with | true => F23_58 fu x x1 n x2 y (fun o => K (.exit 0) [.undef, .undef, .ptr 0 0, .ptr 1 0] [.obj [.int .i64 (x3), .nilslice, .nilslice], .obj [.int .i64 (out), .fz ft3 (out1) false, .own 2], .row ft4 o]) | false => none) | false => none) | false => none)
  | _, _ => none

noncomputable def pc23_58 (fu : Nat) : Nat → Option ToldP := fun _ => none
theorem e23_58 (fu n : Nat) (R : Type) (K : VExit → UEnv → USt → Option R) (x : List (List D)) (x1 : Int) (x2 : Int) (x3 : Int) (out : Int) (out1 : List (List D)) (y : List (List D)) :
    F23_58 fu x x1 (n + 1) x2 y (fun o => K (.exit 0) [.undef, .undef, .ptr 0 0, .ptr 1 0] [.obj [.int .i64 (x3), .nilslice, .nilslice], .obj [.int .i64 (out), .fz ft3 (out1) false, .own 2], .row ft4 o]) = uexec Try.prog (tb27 fu) 300 (pc23_58 fu) 116 (loopBody (codeAt c23 58)) [.undef, .undef, .ptr 0 0, .ptr 1 0, .undef, .undef, .undef, .undef, .undef, .undef, .undef, .undef, .fz ft4 x false, .int .i64 x1, .int .i64 x2] [.obj [.int .i64 x3, .nilslice, .nilslice], .obj [.int .i64 out, .fz ft3 out1 false, .own 2], .row ft4 y] (loopK 0 [.live [false, false, true, true, false, false, false, false, false, false, false, false, true, true, true], .fzP 12 [] ft4, .gc, .fzC 1 1 ft3, .ownC 1 2 ft4, .gc] [.live [false, false, true, true], .gc] (t23_58 fu n) K) := by kernel_rfl

theorem p23_58 (fu : Nat) : SoundPc Try.prog 0 c23 (pc23_58 fu) := SoundPc.none _ _ _
theorem s23_58 (fu : Nat) : ∀ n, SoundP Try.prog 0 (.loop (loopBody (codeAt c23 58))) (t23_58 fu n) := by
  refine loop_sound (gin := [.live [false, false, true, true, false, false, false, false, false, false, false, false, true, true, true], .fzP 12 [] ft4, .gc, .fzC 1 1 ft3, .ownC 1 2 ft4, .gc]) (gout := [.live [false, false, true, true], .gc]) (k := 300) (tb27_sound fu) (p23_58 fu) (by decide) a23_58 (fun R e s K => ?_) (fun n R e s K r h => ?_)
  · unfold t23_58; repeat' split
    all_goals rfl
  · unfold t23_58 at h; split at h
    case h_2 => cases h
    split at h
    case h_2 => cases h
    rename_i hq
    have hq := FT.sames_eq _ _ hq
    subst hq
    split at h
    case h_2 => cases h
    rename_i hq
    have hq := FT.sames_eq _ _ hq
    subst hq
    split at h
    case h_2 => cases h
    rename_i hq
    have hq := FT.sames_eq _ _ hq
    subst hq
    exact (e23_58 fu n R K _ _ _ _ _ _ _).symm.trans h


noncomputable def F23 {R : Type} (fu : Nat) (a : List D) (k0 : (List D) → Option R) : Option R :=
  F23_58 fu (cell 2 a).toRows (ofN (cell 2 a).toRows.length) fu 0 [] fun o0 => (k0 [D.int ((cell 0 a).toInt), D.row ((cell 1 a).toRows), D.row o0])

noncomputable def pc23 (fu : Nat) : Nat → Option ToldP := fun p => match Nat.beq p 58 with | true => some (ghP 0 [.live [false, false, true, true, false, false, false, false, false, false, false, false, true, true, true], .fzP 12 [] ft4, .gc, .fzC 1 1 ft3, .ownC 1 2 ft4, .gc] (t23_58 fu fu)) | false => none
noncomputable def t23 (fu : Nat) : ToldF := fun _ args s K => match args, s with
  | [.agg [.int .i64 q, .fz zq0 q1 false, .fz zq1 q2 false]], [] => (match FT.sames zq0 ft3 with | true => (match FT.sames zq1 ft4 with | true => F23 fu [D.int q, D.row q1, D.row q2] (fun o => K (.agg (ofDs 0 ft6 o)) []) | false => none) | false => none)
  | _, _ => none

theorem e23 (R : Type) (K : UV → USt → Option R) (fu : Nat) (q : Int) (q1 : List (List D)) (q2 : List (List D)) :
    F23 fu [D.int q, D.row q1, D.row q2] (fun o => K (.agg (ofDs 0 ft6 o)) []) = ufun Try.prog ⟨(tb27 fu), pc23 fu⟩ 300 23 [.agg [.int .i64 q, .fz ft3 q1 false, .fz ft4 q2 false]] [] (funK 0 [.fzP 0 [1] ft3, .fzP 0 [2] ft4, .gc] K) := by kernel_rfl

theorem s23 (fu : Nat) : Tells Try.prog 23 (t23 fu) := by
  refine ufun_sound (T := ⟨(tb27 fu), pc23 fu⟩) (m := 0) (gout := [.fzP 0 [1] ft3, .fzP 0 [2] ft4, .gc]) (k := 300) (tb27_sound fu) (fun fn body hf hb => ?_) (fun R args s K r h => ?_) (fun R args s K r h => ?_)
  · have hc : body = c23 := by
      have h1 : Try.prog.funcs[23]? = some Try.f23 := rfl
      rw [h1] at hf; cases hf
      have h2 : Try.f23.body = some c23 := rfl
      rw [h2] at hb; cases hb; rfl
    subst hc
    exact fun p told h b hb => by
      replace h : pc23 fu p = some told := h
      unfold pc23 at h
      split at h
      · rename_i hp
        cases h
        have := Nat.eq_of_beq_eq_true hp
        subst this
        rw [a23_58] at hb
        cases hb
        exact ghP_sound (s23_58 fu _)
      ·
        cases h

  · unfold t23 at h; split at h
    · rfl
    · cases h
  · unfold t23 at h; split at h
    case h_2 => cases h
    split at h
    case h_2 => cases h
    rename_i hq
    have hq := FT.sames_eq _ _ hq
    subst hq
    split at h
    case h_2 => cases h
    rename_i hq
    have hq := FT.sames_eq _ _ hq
    subst hq
    exact (e23 R K fu _ _ _).symm.trans h

noncomputable def tb23 (fu : Nat) : FuncId → Option (Bool × ToldF) := fun f => match Nat.beq f 23 with
  | true => some (false, ghF [.fzP 0 [1] ft3, .fzP 0 [2] ft4] (t23 fu))
  | false => (tb27 fu) f
theorem tb23_sound (fu : Nat) : SoundF' Try.prog (tb23 fu) := by
  intro f own told h
  unfold tb23 at h
  split at h
  · rename_i hb
    cases h
    have := Nat.eq_of_beq_eq_true hb
    subst this
    exact ghF_sound (s23 fu)
  · exact (tb27_sound fu) f own told h

end Go.Proofs.Ytdoikghgblohjaa.V

/- Printed by ugen: bytes.Equal -/
namespace Go.Proofs.Ytdoikghgblohjaa.V
set_option maxRecDepth 100000


noncomputable def c31 : Code := match Try.f31.body with | some c => c | none => .skip

noncomputable def F31 {R : Type} (fu : Nat) (a : List (List D)) (b : List (List D)) (k0 : Bool → Option R) : Option R :=
  (k0 (strEq (strOf a) (strOf b)))

noncomputable def pc31 (fu : Nat) : Nat → Option ToldP := fun _ => none
noncomputable def t31 (fu : Nat) : ToldF := fun _ args s K => match args, s with
  | [.fz zq0 a false, .fz zq1 b false], [] => (match FT.sames zq0 ft0 with | true => (match FT.sames zq1 ft0 with | true => F31 fu a b (fun o => K (.bool o) []) | false => none) | false => none)
  | _, _ => none

theorem e31 (R : Type) (K : UV → USt → Option R) (fu : Nat) (a : List (List D)) (b : List (List D)) :
    F31 fu a b (fun o => K (.bool o) []) = ufun Try.prog ⟨(tb23 fu), pc31 fu⟩ 300 31 [.fz ft0 a false, .fz ft0 b false] [] (funK 0 [.gc] K) := by kernel_rfl

theorem s31 (fu : Nat) : Tells Try.prog 31 (t31 fu) := by
  refine ufun_sound (T := ⟨(tb23 fu), pc31 fu⟩) (m := 0) (gout := [.gc]) (k := 300) (tb23_sound fu) (fun fn body hf hb => ?_) (fun R args s K r h => ?_) (fun R args s K r h => ?_)
  · have hc : body = c31 := by
      have h1 : Try.prog.funcs[31]? = some Try.f31 := rfl
      rw [h1] at hf; cases hf
      have h2 : Try.f31.body = some c31 := rfl
      rw [h2] at hb; cases hb; rfl
    subst hc
    exact SoundPc.none _ _ _
  · unfold t31 at h; split at h
    · rfl
    · cases h
  · unfold t31 at h; split at h
    case h_2 => cases h
    split at h
    case h_2 => cases h
    rename_i hq
    have hq := FT.sames_eq _ _ hq
    subst hq
    split at h
    case h_2 => cases h
    rename_i hq
    have hq := FT.sames_eq _ _ hq
    subst hq
    exact (e31 R K fu _ _).symm.trans h

noncomputable def tb31 (fu : Nat) : FuncId → Option (Bool × ToldF) := fun f => match Nat.beq f 31 with
  | true => some (false, ghF [.fzP 0 [] ft0, .fzP 1 [] ft0] (t31 fu))
  | false => (tb23 fu) f
theorem tb31_sound (fu : Nat) : SoundF' Try.prog (tb31 fu) := by
  intro f own told h
  unfold tb31 at h
  split at h
  · rename_i hb
    cases h
    have := Nat.eq_of_beq_eq_true hb
    subst this
    exact ghF_sound (s31 fu)
  · exact (tb23_sound fu) f own told h

end Go.Proofs.Ytdoikghgblohjaa.V

/- Printed by ugen: daisychain/daisychainlaw10.SameCmd -/
namespace Go.Proofs.Ytdoikghgblohjaa.V
set_option maxRecDepth 100000


noncomputable def c26 : Code := match Try.f26.body with | some c => c | none => .skip
theorem a26_58 : codeAt c26 58 = some (.loop (loopBody (codeAt c26 58))) := by kernel_rfl
noncomputable def F26_58 {R : Type} (fu : Nat) (x : Int) (a15 : List (List D)) (b15 : List (List D)) : Nat → Int → (Option R) → (Option R) → Option R
  | 0, _, _, _ => none
  | n + 1, x1, k0, k1 => bif decide (x1 < x) then bif within x1 a15.length then bif within x1 b15.length then bif !strEq (cell 0 (elem x1.toNat a15)).toStr (cell 0 (elem x1.toNat b15)).toStr then (k0) else (F26_58 fu x a15 b15 n (IntKind.i64.wrap (x1 + 1)) k0 k1) else none else none else (k1)

noncomputable def t26_58 (fu n : Nat) : ToldP := fun _ e s K => match e, s with
  | [.undef, .undef, .ptr 0 0, .ptr 1 0, .undef, .undef, .undef, .undef, .undef, .undef, .undef, .undef, .undef, .undef, .undef, .undef, .int .i64 x, .int .i64 x1], [.obj [.int .i64 a, .int .i64 a1, .int .i64 a2, .str a3, .int .i64 a4, .int .i64 a5, .int .i64 a6, .int .i64 a7, .int .i64 a8, .str a9, .bool a10, .str a11, .str a12, .str a13, .str a14, .fz zq0 a15 false, .int .i64 a16, .int .i64 a17], .obj [.int .i64 b, .int .i64 b1, .int .i64 b2, .str b3, .int .i64 b4, .int .i64 b5, .int .i64 b6, .int .i64 b7, .int .i64 b8, .str b9, .bool b10, .str b11, .str b12, .str b13, .str b14, .fz zq1 b15 false, .int .i64 b16, .int .i64 b17]] => (match FT.sames zq0 ft2 with | true => (match FT.sames zq1 ft2 with | true => F26_58 fu x a15 b15 n x1 (K .ret [.undef, .undef, .ptr 0 0, .ptr 1 0, .bool (false), .undef, .undef, .undef, .undef, .undef, .undef, .undef, .undef, .undef, .undef, .undef, .undef, .undef, .undef, .undef, .undef, .undef, .undef, .undef, .undef, .undef, .undef, .undef, .undef, .undef, .undef, .undef, .undef, .undef, .undef, .undef, .undef, .undef, .undef, .undef, .undef, .undef, .undef, .undef, .undef, .undef, .undef, .undef, .undef, .undef, .undef, .undef, .undef, .undef, .undef, .undef, .undef, .undef, .undef, .undef, .undef, .undef, .undef, .undef, .undef, .undef, .undef, .undef, .undef, .undef, .undef, .undef, .undef, .undef, .undef, .undef, .undef, .undef, .undef, .undef, .undef, .undef, .undef, .undef, .undef, .undef, .undef, .undef, .undef, .undef, .undef, .undef, .undef, .undef, .undef, .undef, .undef, .undef, .undef, .undef, .undef, .undef, .undef, .undef, .undef, .undef, .undef] [.obj [.int .i64 (a), .int .i64 (a1), .int .i64 (a2), .str (a3), .int .i64 (a4), .int .i64 (a5), .int .i64 (a6), .int .i64 (a7), .int .i64 (a8), .str (a9), .bool (a10), .str (a11), .str (a12), .str (a13), .str (a14), .fz ft2 (a15) false, .int .i64 (a16), .int .i64 (a17)], .obj [.int .i64 (b), .int .i64 (b1), .int .i64 (b2), .str (b3), .int .i64 (b4), .int .i64 (b5), .int .i64 (b6), .int .i64 (b7), .int .i64 (b8), .str (b9), .bool (b10), .str (b11), .str (b12), .str (b13), .str (b14), .fz ft2 (b15) false, .int .i64 (b16), .int .i64 (b17)]]) (K (.exit 0) [.undef, .undef, .ptr 0 0, .ptr 1 0, .undef, .undef, .undef, .undef, .undef, .undef, .undef, .undef, .undef, .undef, .undef, .undef, .undef, .undef, .undef, .undef, .undef, .undef, .undef, .undef, .undef, .undef, .undef, .undef, .undef, .undef, .undef, .undef, .undef, .undef, .undef, .undef, .undef, .undef, .undef, .undef, .undef, .undef, .undef, .undef, .undef, .undef, .undef, .undef, .undef, .undef, .undef, .undef, .undef, .undef, .undef, .undef, .undef, .undef, .undef, .undef, .undef, .undef, .undef, .undef, .undef, .undef, .undef, .undef, .undef, .undef, .undef, .undef, .undef, .undef, .undef, .undef, .undef, .undef, .undef, .undef, .undef, .undef, .undef, .undef, .undef, .undef, .undef, .undef, .undef, .undef, .undef, .undef, .undef, .undef, .undef, .undef, .undef, .undef, .undef, .undef, .undef, .undef, .undef, .undef, .undef, .undef, .undef] [.obj [.int .i64 (a), .int .i64 (a1), .int .i64 (a2), .str (a3), .int .i64 (a4), .int .i64 (a5), .int .i64 (a6), .int .i64 (a7), .int .i64 (a8), .str (a9), .bool (a10), .str (a11), .str (a12), .str (a13), .str (a14), .fz ft2 (a15) false, .int .i64 (a16), .int .i64 (a17)], .obj [.int .i64 (b), .int .i64 (b1), .int .i64 (b2), .str (b3), .int .i64 (b4), .int .i64 (b5), .int .i64 (b6), .int .i64 (b7), .int .i64 (b8), .str (b9), .bool (b10), .str (b11), .str (b12), .str (b13), .str (b14), .fz ft2 (b15) false, .int .i64 (b16), .int .i64 (b17)]]) | false => none) | false => none)
  | _, _ => none

noncomputable def pc26_58 (fu : Nat) : Nat → Option ToldP := fun _ => none
theorem e26_58 (fu n : Nat) (R : Type) (K : VExit → UEnv → USt → Option R) (x : Int) (x1 : Int) (a : Int) (a1 : Int) (a2 : Int) (a3 : ByteArray) (a4 : Int) (a5 : Int) (a6 : Int) (a7 : Int) (a8 : Int) (a9 : ByteArray) (a10 : Bool) (a11 : ByteArray) (a12 : ByteArray) (a13 : ByteArray) (a14 : ByteArray) (a15 : List (List D)) (a16 : Int) (a17 : Int) (b : Int) (b1 : Int) (b2 : Int) (b3 : ByteArray) (b4 : Int) (b5 : Int) (b6 : Int) (b7 : Int) (b8 : Int) (b9 : ByteArray) (b10 : Bool) (b11 : ByteArray) (b12 : ByteArray) (b13 : ByteArray) (b14 : ByteArray) (b15 : List (List D)) (b16 : Int) (b17 : Int) :
    F26_58 fu x a15 b15 (n + 1) x1 (K .ret [.undef, .undef, .ptr 0 0, .ptr 1 0, .bool (false), .undef, .undef, .undef, .undef, .undef, .undef, .undef, .undef, .undef, .undef, .undef, .undef, .undef, .undef, .undef, .undef, .undef, .undef, .undef, .undef, .undef, .undef, .undef, .undef, .undef, .undef, .undef, .undef, .undef, .undef, .undef, .undef, .undef, .undef, .undef, .undef, .undef, .undef, .undef, .undef, .undef, .undef, .undef, .undef, .undef, .undef, .undef, .undef, .undef, .undef, .undef, .undef, .undef, .undef, .undef, .undef, .undef, .undef, .undef, .undef, .undef, .undef, .undef, .undef, .undef, .undef, .undef, .undef, .undef, .undef, .undef, .undef, .undef, .undef, .undef, .undef, .undef, .undef, .undef, .undef, .undef, .undef, .undef, .undef, .undef, .undef, .undef, .undef, .undef, .undef, .undef, .undef, .undef, .undef, .undef, .undef, .undef, .undef, .undef, .undef, .undef, .undef] [.obj [.int .i64 (a), .int .i64 (a1), .int .i64 (a2), .str (a3), .int .i64 (a4), .int .i64 (a5), .int .i64 (a6), .int .i64 (a7), .int .i64 (a8), .str (a9), .bool (a10), .str (a11), .str (a12), .str (a13), .str (a14), .fz ft2 (a15) false, .int .i64 (a16), .int .i64 (a17)], .obj [.int .i64 (b), .int .i64 (b1), .int .i64 (b2), .str (b3), .int .i64 (b4), .int .i64 (b5), .int .i64 (b6), .int .i64 (b7), .int .i64 (b8), .str (b9), .bool (b10), .str (b11), .str (b12), .str (b13), .str (b14), .fz ft2 (b15) false, .int .i64 (b16), .int .i64 (b17)]]) (K (.exit 0) [.undef, .undef, .ptr 0 0, .ptr 1 0, .undef, .undef, .undef, .undef, .undef, .undef, .undef, .undef, .undef, .undef, .undef, .undef, .undef, .undef, .undef, .undef, .undef, .undef, .undef, .undef, .undef, .undef, .undef, .undef, .undef, .undef, .undef, .undef, .undef, .undef, .undef, .undef, .undef, .undef, .undef, .undef, .undef, .undef, .undef, .undef, .undef, .undef, .undef, .undef, .undef, .undef, .undef, .undef, .undef, .undef, .undef, .undef, .undef, .undef, .undef, .undef, .undef, .undef, .undef, .undef, .undef, .undef, .undef, .undef, .undef, .undef, .undef, .undef, .undef, .undef, .undef, .undef, .undef, .undef, .undef, .undef, .undef, .undef, .undef, .undef, .undef, .undef, .undef, .undef, .undef, .undef, .undef, .undef, .undef, .undef, .undef, .undef, .undef, .undef, .undef, .undef, .undef, .undef, .undef, .undef, .undef, .undef, .undef] [.obj [.int .i64 (a), .int .i64 (a1), .int .i64 (a2), .str (a3), .int .i64 (a4), .int .i64 (a5), .int .i64 (a6), .int .i64 (a7), .int .i64 (a8), .str (a9), .bool (a10), .str (a11), .str (a12), .str (a13), .str (a14), .fz ft2 (a15) false, .int .i64 (a16), .int .i64 (a17)], .obj [.int .i64 (b), .int .i64 (b1), .int .i64 (b2), .str (b3), .int .i64 (b4), .int .i64 (b5), .int .i64 (b6), .int .i64 (b7), .int .i64 (b8), .str (b9), .bool (b10), .str (b11), .str (b12), .str (b13), .str (b14), .fz ft2 (b15) false, .int .i64 (b16), .int .i64 (b17)]]) = uexec Try.prog (tb31 fu) 300 (pc26_58 fu) 116 (loopBody (codeAt c26 58)) [.undef, .undef, .ptr 0 0, .ptr 1 0, .undef, .undef, .undef, .undef, .undef, .undef, .undef, .undef, .undef, .undef, .undef, .undef, .int .i64 x, .int .i64 x1] [.obj [.int .i64 a, .int .i64 a1, .int .i64 a2, .str a3, .int .i64 a4, .int .i64 a5, .int .i64 a6, .int .i64 a7, .int .i64 a8, .str a9, .bool a10, .str a11, .str a12, .str a13, .str a14, .fz ft2 a15 false, .int .i64 a16, .int .i64 a17], .obj [.int .i64 b, .int .i64 b1, .int .i64 b2, .str b3, .int .i64 b4, .int .i64 b5, .int .i64 b6, .int .i64 b7, .int .i64 b8, .str b9, .bool b10, .str b11, .str b12, .str b13, .str b14, .fz ft2 b15 false, .int .i64 b16, .int .i64 b17]] (loopK 0 [.live [false, false, true, true, false, false, false, false, false, false, false, false, false, false, false, false, true, true], .gc, .fzC 0 15 ft2, .fzC 1 15 ft2, .gc] [.live [false, false, true, true, true, false, false, false, false, false, false, false, false, false, false, false, false, false, false, false, false, false, false, false, false, false, false, false, false, false, false, false, false, false, false, false, false, false, true, true, true, true, true, false, false, true, true, true, true, true, false, false, true, true, true, true, true, false, false, true, true, true, true, true, false, false, true, true, true, true, true, false, false, false, true, true, true, true, true, false, false, true, true, true, true, true, false, false, true, true, true, true, true, false, false, true, true, true, true, true, false, false, true, true, true, true, true], .gc] (t26_58 fu n) K) := by kernel_rfl

theorem p26_58 (fu : Nat) : SoundPc Try.prog 0 c26 (pc26_58 fu) := SoundPc.none _ _ _
theorem s26_58 (fu : Nat) : ∀ n, SoundP Try.prog 0 (.loop (loopBody (codeAt c26 58))) (t26_58 fu n) := by
  refine loop_sound (gin := [.live [false, false, true, true, false, false, false, false, false, false, false, false, false, false, false, false, true, true], .gc, .fzC 0 15 ft2, .fzC 1 15 ft2, .gc]) (gout := [.live [false, false, true, true, true, false, false, false, false, false, false, false, false, false, false, false, false, false, false, false, false, false, false, false, false, false, false, false, false, false, false, false, false, false, false, false, false, false, true, true, true, true, true, false, false, true, true, true, true, true, false, false, true, true, true, true, true, false, false, true, true, true, true, true, false, false, true, true, true, true, true, false, false, false, true, true, true, true, true, false, false, true, true, true, true, true, false, false, true, true, true, true, true, false, false, true, true, true, true, true, false, false, true, true, true, true, true], .gc]) (k := 300) (tb31_sound fu) (p26_58 fu) (by decide) a26_58 (fun R e s K => ?_) (fun n R e s K r h => ?_)
  · unfold t26_58; repeat' split
    all_goals rfl
  · unfold t26_58 at h; split at h
    case h_2 => cases h
    split at h
    case h_2 => cases h
    rename_i hq
    have hq := FT.sames_eq _ _ hq
    subst hq
    split at h
    case h_2 => cases h
    rename_i hq
    have hq := FT.sames_eq _ _ hq
    subst hq
    exact (e26_58 fu n R K _ _ _ _ _ _ _ _ _ _ _ _ _ _ _ _ _ _ _ _ _ _ _ _ _ _ _ _ _ _ _ _ _ _ _ _ _ _).symm.trans h


noncomputable def F26 {R : Type} (fu : Nat) (a : List D) (b : List D) (k0 : Bool → Option R) : Option R :=
  bif !decide (ofN (cell 15 a).toRows.length = ofN (cell 15 b).toRows.length) then (k0 false) else F26_58 fu (ofN (cell 15 a).toRows.length) (cell 15 a).toRows (cell 15 b).toRows fu 0 ((k0 false)) (bif decide ((cell 0 a).toInt = (cell 0 b).toInt) then bif decide ((cell 1 a).toInt = (cell 1 b).toInt) then bif decide ((cell 2 a).toInt = (cell 2 b).toInt) then bif decide ((cell 16 a).toInt = (cell 16 b).toInt) then bif decide ((cell 17 a).toInt = (cell 17 b).toInt) then bif decide ((cell 4 a).toInt = (cell 4 b).toInt) && (decide ((cell 5 a).toInt = (cell 5 b).toInt) && (decide ((cell 6 a).toInt = (cell 6 b).toInt) && (decide ((cell 7 a).toInt = (cell 7 b).toInt) && (decide ((cell 8 a).toInt = (cell 8 b).toInt) && (strEq (cell 9 a).toStr (cell 9 b).toStr && ((cell 10 a).toBool == (cell 10 b).toBool && true)))))) then bif strEq (cell 3 a).toStr (cell 3 b).toStr then bif strEq (cell 11 a).toStr (cell 11 b).toStr then bif strEq (cell 12 a).toStr (cell 12 b).toStr then bif strEq (cell 13 a).toStr (cell 13 b).toStr then (k0 (strEq (cell 14 a).toStr (cell 14 b).toStr)) else (k0 false) else (k0 false) else (k0 false) else (k0 false) else (k0 false) else (k0 false) else (k0 false) else (k0 false) else (k0 false) else (k0 false))

noncomputable def pc26 (fu : Nat) : Nat → Option ToldP := fun p => match Nat.beq p 58 with | true => some (ghP 0 [.live [false, false, true, true, false, false, false, false, false, false, false, false, false, false, false, false, true, true], .gc, .fzC 0 15 ft2, .fzC 1 15 ft2, .gc] (t26_58 fu fu)) | false => none
noncomputable def t26 (fu : Nat) : ToldF := fun _ args s K => match args, s with
  | [.agg [.int .i64 q, .int .i64 q1, .int .i64 q2, .str q3, .int .i64 q4, .int .i64 q5, .int .i64 q6, .int .i64 q7, .int .i64 q8, .str q9, .bool q10, .str q11, .str q12, .str q13, .str q14, .fz zq0 q15 false, .int .i64 q16, .int .i64 q17], .agg [.int .i64 q18, .int .i64 q19, .int .i64 q20, .str q21, .int .i64 q22, .int .i64 q23, .int .i64 q24, .int .i64 q25, .int .i64 q26, .str q27, .bool q28, .str q29, .str q30, .str q31, .str q32, .fz zq1 q33 false, .int .i64 q34, .int .i64 q35]], [] => (match FT.sames zq0 ft2 with | true => (match FT.sames zq1 ft2 with | true => F26 fu [D.int q, D.int q1, D.int q2, D.str q3, D.int q4, D.int q5, D.int q6, D.int q7, D.int q8, D.str q9, D.bool q10, D.str q11, D.str q12, D.str q13, D.str q14, D.row q15, D.int q16, D.int q17] [D.int q18, D.int q19, D.int q20, D.str q21, D.int q22, D.int q23, D.int q24, D.int q25, D.int q26, D.str q27, D.bool q28, D.str q29, D.str q30, D.str q31, D.str q32, D.row q33, D.int q34, D.int q35] (fun o => K (.bool o) []) | false => none) | false => none)
  | _, _ => none

theorem e26 (R : Type) (K : UV → USt → Option R) (fu : Nat) (q : Int) (q1 : Int) (q2 : Int) (q3 : ByteArray) (q4 : Int) (q5 : Int) (q6 : Int) (q7 : Int) (q8 : Int) (q9 : ByteArray) (q10 : Bool) (q11 : ByteArray) (q12 : ByteArray) (q13 : ByteArray) (q14 : ByteArray) (q15 : List (List D)) (q16 : Int) (q17 : Int) (q18 : Int) (q19 : Int) (q20 : Int) (q21 : ByteArray) (q22 : Int) (q23 : Int) (q24 : Int) (q25 : Int) (q26 : Int) (q27 : ByteArray) (q28 : Bool) (q29 : ByteArray) (q30 : ByteArray) (q31 : ByteArray) (q32 : ByteArray) (q33 : List (List D)) (q34 : Int) (q35 : Int) :
    F26 fu [D.int q, D.int q1, D.int q2, D.str q3, D.int q4, D.int q5, D.int q6, D.int q7, D.int q8, D.str q9, D.bool q10, D.str q11, D.str q12, D.str q13, D.str q14, D.row q15, D.int q16, D.int q17] [D.int q18, D.int q19, D.int q20, D.str q21, D.int q22, D.int q23, D.int q24, D.int q25, D.int q26, D.str q27, D.bool q28, D.str q29, D.str q30, D.str q31, D.str q32, D.row q33, D.int q34, D.int q35] (fun o => K (.bool o) []) = ufun Try.prog ⟨(tb31 fu), pc26 fu⟩ 300 26 [.agg [.int .i64 q, .int .i64 q1, .int .i64 q2, .str q3, .int .i64 q4, .int .i64 q5, .int .i64 q6, .int .i64 q7, .int .i64 q8, .str q9, .bool q10, .str q11, .str q12, .str q13, .str q14, .fz ft2 q15 false, .int .i64 q16, .int .i64 q17], .agg [.int .i64 q18, .int .i64 q19, .int .i64 q20, .str q21, .int .i64 q22, .int .i64 q23, .int .i64 q24, .int .i64 q25, .int .i64 q26, .str q27, .bool q28, .str q29, .str q30, .str q31, .str q32, .fz ft2 q33 false, .int .i64 q34, .int .i64 q35]] [] (funK 0 [.gc] K) := by kernel_rfl

theorem s26 (fu : Nat) : Tells Try.prog 26 (t26 fu) := by
  refine ufun_sound (T := ⟨(tb31 fu), pc26 fu⟩) (m := 0) (gout := [.gc]) (k := 300) (tb31_sound fu) (fun fn body hf hb => ?_) (fun R args s K r h => ?_) (fun R args s K r h => ?_)
  · have hc : body = c26 := by
      have h1 : Try.prog.funcs[26]? = some Try.f26 := rfl
      rw [h1] at hf; cases hf
      have h2 : Try.f26.body = some c26 := rfl
      rw [h2] at hb; cases hb; rfl
    subst hc
    exact fun p told h b hb => by
      replace h : pc26 fu p = some told := h
      unfold pc26 at h
      split at h
      · rename_i hp
        cases h
        have := Nat.eq_of_beq_eq_true hp
        subst this
        rw [a26_58] at hb
        cases hb
        exact ghP_sound (s26_58 fu _)
      ·
        cases h

  · unfold t26 at h; split at h
    · rfl
    · cases h
  · unfold t26 at h; split at h
    case h_2 => cases h
    split at h
    case h_2 => cases h
    rename_i hq
    have hq := FT.sames_eq _ _ hq
    subst hq
    split at h
    case h_2 => cases h
    rename_i hq
    have hq := FT.sames_eq _ _ hq
    subst hq
    exact (e26 R K fu _ _ _ _ _ _ _ _ _ _ _ _ _ _ _ _ _ _ _ _ _ _ _ _ _ _ _ _ _ _ _ _ _ _ _ _).symm.trans h

noncomputable def tb26 (fu : Nat) : FuncId → Option (Bool × ToldF) := fun f => match Nat.beq f 26 with
  | true => some (false, ghF [.fzP 0 [15] ft2, .fzP 1 [15] ft2] (t26 fu))
  | false => (tb31 fu) f
theorem tb26_sound (fu : Nat) : SoundF' Try.prog (tb26 fu) := by
  intro f own told h
  unfold tb26 at h
  split at h
  · rename_i hb
    cases h
    have := Nat.eq_of_beq_eq_true hb
    subst this
    exact ghF_sound (s26 fu)
  · exact (tb31_sound fu) f own told h

end Go.Proofs.Ytdoikghgblohjaa.V

/- Printed by ugen: daisychain/daisychainlaw09.Alike -/
namespace Go.Proofs.Ytdoikghgblohjaa.V
set_option maxRecDepth 100000


noncomputable def c22 : Code := match Try.f22.body with | some c => c | none => .skip
theorem a22_58 : codeAt c22 58 = some (.loop (loopBody (codeAt c22 58))) := by kernel_rfl
noncomputable def F22_58 {R : Type} (fu : Nat) (x : Int) (a1 : List (List D)) (b1 : List (List D)) : Nat → Int → (Option R) → (Option R) → Option R
  | 0, _, _, _ => none
  | n + 1, x1, k0, k1 => bif decide (x1 < x) then bif within x1 a1.length then bif within x1 b1.length then bif !decide ((cell 0 (elem x1.toNat a1)).toInt = (cell 0 (elem x1.toNat b1)).toInt) then (k0) else (F22_58 fu x a1 b1 n (IntKind.i64.wrap (x1 + 1)) k0 k1) else none else none else (k1)

noncomputable def t22_58 (fu n : Nat) : ToldP := fun _ e s K => match e, s with
  | (.undef :: .undef :: .ptr 0 0 :: .ptr 1 0 :: .undef :: .undef :: .undef :: .undef :: .undef :: .undef :: .undef :: .undef :: .undef :: .undef :: .undef :: .undef :: .undef :: .undef :: .undef :: .undef :: .undef :: .undef :: .undef :: .undef :: .undef :: .undef :: .undef :: .undef :: .undef :: .undef :: .undef :: .undef :: .int .i64 x :: .int .i64 x1 :: []), [.obj [.int .i64 a, .fz zq0 a1 false, .fz zq1 a2 false], .obj [.int .i64 b, .fz zq2 b1 false, .fz zq3 b2 false]] => (match FT.sames zq0 ft3 with | true => (match FT.sames zq1 ft4 with | true => (match FT.sames zq2 ft3 with | true => (match FT.sames zq3 ft4 with | true => F22_58 fu x a1 b1 n x1 (K .ret [.undef, .undef, .ptr 0 0, .ptr 1 0, .bool (false)] [.obj [.int .i64 (a), .fz ft3 (a1) false, .fz ft4 (a2) false], .obj [.int .i64 (b), .fz ft3 (b1) false, .fz ft4 (b2) false]]) (K (.exit 0) [.undef, .undef, .ptr 0 0, .ptr 1 0, .undef] [.obj [.int .i64 (a), .fz ft3 (a1) false, .fz ft4 (a2) false], .obj [.int .i64 (b), .fz ft3 (b1) false, .fz ft4 (b2) false]]) | false => none) | false => none) | false => none) | false => none)
  | _, _ => none

noncomputable def pc22_58 (fu : Nat) : Nat → Option ToldP := fun _ => none
theorem e22_58 (fu n : Nat) (R : Type) (K : VExit → UEnv → USt → Option R) (x : Int) (x1 : Int) (a : Int) (a1 : List (List D)) (a2 : List (List D)) (b : Int) (b1 : List (List D)) (b2 : List (List D)) :
    F22_58 fu x a1 b1 (n + 1) x1 (K .ret [.undef, .undef, .ptr 0 0, .ptr 1 0, .bool (false)] [.obj [.int .i64 (a), .fz ft3 (a1) false, .fz ft4 (a2) false], .obj [.int .i64 (b), .fz ft3 (b1) false, .fz ft4 (b2) false]]) (K (.exit 0) [.undef, .undef, .ptr 0 0, .ptr 1 0, .undef] [.obj [.int .i64 (a), .fz ft3 (a1) false, .fz ft4 (a2) false], .obj [.int .i64 (b), .fz ft3 (b1) false, .fz ft4 (b2) false]]) = uexec Try.prog (tb26 fu) 300 (pc22_58 fu) 116 (loopBody (codeAt c22 58)) (.undef :: .undef :: .ptr 0 0 :: .ptr 1 0 :: .undef :: .undef :: .undef :: .undef :: .undef :: .undef :: .undef :: .undef :: .undef :: .undef :: .undef :: .undef :: .undef :: .undef :: .undef :: .undef :: .undef :: .undef :: .undef :: .undef :: .undef :: .undef :: .undef :: .undef :: .undef :: .undef :: .undef :: .undef :: .int .i64 x :: .int .i64 x1 :: []) [.obj [.int .i64 a, .fz ft3 a1 false, .fz ft4 a2 false], .obj [.int .i64 b, .fz ft3 b1 false, .fz ft4 b2 false]] (loopK 0 [.live (false :: false :: true :: true :: false :: false :: false :: false :: false :: false :: false :: false :: false :: false :: false :: false :: false :: false :: false :: false :: false :: false :: false :: false :: false :: false :: false :: false :: false :: false :: false :: false :: true :: true :: []), .gc, .fzC 0 1 ft3, .fzC 0 2 ft4, .fzC 1 1 ft3, .fzC 1 2 ft4, .gc] [.live [false, false, true, true, true], .gc] (t22_58 fu n) K) := by kernel_rfl

theorem p22_58 (fu : Nat) : SoundPc Try.prog 0 c22 (pc22_58 fu) := SoundPc.none _ _ _
theorem s22_58 (fu : Nat) : ∀ n, SoundP Try.prog 0 (.loop (loopBody (codeAt c22 58))) (t22_58 fu n) := by
  refine loop_sound (gin := [.live (false :: false :: true :: true :: false :: false :: false :: false :: false :: false :: false :: false :: false :: false :: false :: false :: false :: false :: false :: false :: false :: false :: false :: false :: false :: false :: false :: false :: false :: false :: false :: false :: true :: true :: []), .gc, .fzC 0 1 ft3, .fzC 0 2 ft4, .fzC 1 1 ft3, .fzC 1 2 ft4, .gc]) (gout := [.live [false, false, true, true, true], .gc]) (k := 300) (tb26_sound fu) (p22_58 fu) (by decide) a22_58 (fun R e s K => ?_) (fun n R e s K r h => ?_)
  · unfold t22_58; repeat' split
    all_goals rfl
  · unfold t22_58 at h; split at h
    case h_2 => cases h
    split at h
    case h_2 => cases h
    rename_i hq
    have hq := FT.sames_eq _ _ hq
    subst hq
    split at h
    case h_2 => cases h
    rename_i hq
    have hq := FT.sames_eq _ _ hq
    subst hq
    split at h
    case h_2 => cases h
    rename_i hq
    have hq := FT.sames_eq _ _ hq
    subst hq
    split at h
    case h_2 => cases h
    rename_i hq
    have hq := FT.sames_eq _ _ hq
    subst hq
    exact (e22_58 fu n R K _ _ _ _ _ _ _ _).symm.trans h

theorem a22_122 : codeAt c22 122 = some (.loop (loopBody (codeAt c22 122))) := by kernel_rfl
noncomputable def F22_122 {R : Type} (fu : Nat) (x : Int) (a2 : List (List D)) (b2 : List (List D)) : Nat → Int → (Option R) → (Option R) → Option R
  | 0, _, _, _ => none
  | n + 1, x1, k0, k1 => bif decide (x1 < x) then bif within x1 a2.length then bif within x1 b2.length then bif !(decide ((cell 0 (elem x1.toNat a2)).toInt = (cell 0 (elem x1.toNat b2)).toInt) && (decide ((cell 1 (elem x1.toNat a2)).toInt = (cell 1 (elem x1.toNat b2)).toInt) && (strEq (cell 2 (elem x1.toNat a2)).toStr (cell 2 (elem x1.toNat b2)).toStr && (strEq (cell 3 (elem x1.toNat a2)).toStr (cell 3 (elem x1.toNat b2)).toStr && (strEq (cell 4 (elem x1.toNat a2)).toStr (cell 4 (elem x1.toNat b2)).toStr && true))))) then (k0) else (F22_122 fu x a2 b2 n (IntKind.i64.wrap (x1 + 1)) k0 k1) else none else none else (k1)

noncomputable def t22_122 (fu n : Nat) : ToldP := fun _ e s K => match e, s with
  | (.undef :: .undef :: .ptr 0 0 :: .ptr 1 0 :: .undef :: .undef :: .undef :: .undef :: .undef :: .undef :: .undef :: .undef :: .undef :: .undef :: .undef :: .undef :: .undef :: .undef :: .undef :: .undef :: .undef :: .undef :: .undef :: .undef :: .undef :: .undef :: .undef :: .undef :: .undef :: .undef :: .undef :: .undef :: .undef :: .undef :: .undef :: .undef :: .undef :: .undef :: .undef :: .undef :: .undef :: .undef :: .undef :: .undef :: .undef :: .undef :: .undef :: .undef :: .undef :: .undef :: .int .i64 x :: .int .i64 x1 :: []), [.obj [.int .i64 a, .fz zq0 a1 false, .fz zq1 a2 false], .obj [.int .i64 b, .fz zq2 b1 false, .fz zq3 b2 false]] => (match FT.sames zq0 ft3 with | true => (match FT.sames zq1 ft4 with | true => (match FT.sames zq2 ft3 with | true => (match FT.sames zq3 ft4 with | true => F22_122 fu x a2 b2 n x1 (K .ret [.undef, .undef, .undef, .undef, .bool (false)] []) (K (.exit 2) [.undef, .undef, .undef, .undef, .undef] []) | false => none) | false => none) | false => none) | false => none)
  | _, _ => none

noncomputable def pc22_122 (fu : Nat) : Nat → Option ToldP := fun _ => none
theorem e22_122 (fu n : Nat) (R : Type) (K : VExit → UEnv → USt → Option R) (x : Int) (x1 : Int) (a : Int) (a1 : List (List D)) (a2 : List (List D)) (b : Int) (b1 : List (List D)) (b2 : List (List D)) :
    F22_122 fu x a2 b2 (n + 1) x1 (K .ret [.undef, .undef, .undef, .undef, .bool (false)] []) (K (.exit 2) [.undef, .undef, .undef, .undef, .undef] []) = uexec Try.prog (tb26 fu) 300 (pc22_122 fu) 244 (loopBody (codeAt c22 122)) (.undef :: .undef :: .ptr 0 0 :: .ptr 1 0 :: .undef :: .undef :: .undef :: .undef :: .undef :: .undef :: .undef :: .undef :: .undef :: .undef :: .undef :: .undef :: .undef :: .undef :: .undef :: .undef :: .undef :: .undef :: .undef :: .undef :: .undef :: .undef :: .undef :: .undef :: .undef :: .undef :: .undef :: .undef :: .undef :: .undef :: .undef :: .undef :: .undef :: .undef :: .undef :: .undef :: .undef :: .undef :: .undef :: .undef :: .undef :: .undef :: .undef :: .undef :: .undef :: .undef :: .int .i64 x :: .int .i64 x1 :: []) [.obj [.int .i64 a, .fz ft3 a1 false, .fz ft4 a2 false], .obj [.int .i64 b, .fz ft3 b1 false, .fz ft4 b2 false]] (loopK 0 [.live (false :: false :: true :: true :: false :: false :: false :: false :: false :: false :: false :: false :: false :: false :: false :: false :: false :: false :: false :: false :: false :: false :: false :: false :: false :: false :: false :: false :: false :: false :: false :: false :: false :: false :: false :: false :: false :: false :: false :: false :: false :: false :: false :: false :: false :: false :: false :: false :: false :: false :: true :: true :: []), .gc, .fzC 0 1 ft3, .fzC 0 2 ft4, .fzC 1 1 ft3, .fzC 1 2 ft4, .gc] [.live [false, false, false, false, true], .gc] (t22_122 fu n) K) := by kernel_rfl

theorem p22_122 (fu : Nat) : SoundPc Try.prog 0 c22 (pc22_122 fu) := SoundPc.none _ _ _
theorem s22_122 (fu : Nat) : ∀ n, SoundP Try.prog 0 (.loop (loopBody (codeAt c22 122))) (t22_122 fu n) := by
  refine loop_sound (gin := [.live (false :: false :: true :: true :: false :: false :: false :: false :: false :: false :: false :: false :: false :: false :: false :: false :: false :: false :: false :: false :: false :: false :: false :: false :: false :: false :: false :: false :: false :: false :: false :: false :: false :: false :: false :: false :: false :: false :: false :: false :: false :: false :: false :: false :: false :: false :: false :: false :: false :: false :: true :: true :: []), .gc, .fzC 0 1 ft3, .fzC 0 2 ft4, .fzC 1 1 ft3, .fzC 1 2 ft4, .gc]) (gout := [.live [false, false, false, false, true], .gc]) (k := 300) (tb26_sound fu) (p22_122 fu) (by decide) a22_122 (fun R e s K => ?_) (fun n R e s K r h => ?_)
  · unfold t22_122; repeat' split
    all_goals rfl
  · unfold t22_122 at h; split at h
    case h_2 => cases h
    split at h
    case h_2 => cases h
    rename_i hq
    have hq := FT.sames_eq _ _ hq
    subst hq
    split at h
    case h_2 => cases h
    rename_i hq
    have hq := FT.sames_eq _ _ hq
    subst hq
    split at h
    case h_2 => cases h
    rename_i hq
    have hq := FT.sames_eq _ _ hq
    subst hq
    split at h
    case h_2 => cases h
    rename_i hq
    have hq := FT.sames_eq _ _ hq
    subst hq
    exact (e22_122 fu n R K _ _ _ _ _ _ _ _).symm.trans h


noncomputable def F22 {R : Type} (fu : Nat) (a : List D) (b : List D) (k0 : Bool → Option R) : Option R :=
  bif !decide ((cell 0 a).toInt = (cell 0 b).toInt) then (k0 false) else bif !decide (ofN (cell 1 a).toRows.length = ofN (cell 1 b).toRows.length) then (k0 false) else bif !decide (ofN (cell 2 a).toRows.length = ofN (cell 2 b).toRows.length) then (k0 false) else F22_58 fu (ofN (cell 1 a).toRows.length) (cell 1 a).toRows (cell 1 b).toRows fu 0 ((k0 false)) (F22_122 fu (ofN (cell 2 a).toRows.length) (cell 2 a).toRows (cell 2 b).toRows fu 0 ((k0 false)) ((k0 true)))

noncomputable def pc22 (fu : Nat) : Nat → Option ToldP := fun p => match Nat.beq p 58 with | true => some (ghP 0 [.live (false :: false :: true :: true :: false :: false :: false :: false :: false :: false :: false :: false :: false :: false :: false :: false :: false :: false :: false :: false :: false :: false :: false :: false :: false :: false :: false :: false :: false :: false :: false :: false :: true :: true :: []), .gc, .fzC 0 1 ft3, .fzC 0 2 ft4, .fzC 1 1 ft3, .fzC 1 2 ft4, .gc] (t22_58 fu fu)) | false => match Nat.beq p 122 with | true => some (ghP 0 [.live (false :: false :: true :: true :: false :: false :: false :: false :: false :: false :: false :: false :: false :: false :: false :: false :: false :: false :: false :: false :: false :: false :: false :: false :: false :: false :: false :: false :: false :: false :: false :: false :: false :: false :: false :: false :: false :: false :: false :: false :: false :: false :: false :: false :: false :: false :: false :: false :: false :: false :: true :: true :: []), .gc, .fzC 0 1 ft3, .fzC 0 2 ft4, .fzC 1 1 ft3, .fzC 1 2 ft4, .gc] (t22_122 fu fu)) | false => none
noncomputable def t22 (fu : Nat) : ToldF := fun _ args s K => match args, s with
  | [.agg [.int .i64 q, .fz zq0 q1 false, .fz zq1 q2 false], .agg [.int .i64 q3, .fz zq2 q4 false, .fz zq3 q5 false]], [] => (match FT.sames zq0 ft3 with | true => (match FT.sames zq1 ft4 with | true => (match FT.sames zq2 ft3 with | true => (match FT.sames zq3 ft4 with | true => F22 fu [D.int q, D.row q1, D.row q2] [D.int q3, D.row q4, D.row q5] (fun o => K (.bool o) []) | false => none) | false => none) | false => none) | false => none)
  | _, _ => none

theorem e22 (R : Type) (K : UV → USt → Option R) (fu : Nat) (q : Int) (q1 : List (List D)) (q2 : List (List D)) (q3 : Int) (q4 : List (List D)) (q5 : List (List D)) :
    F22 fu [D.int q, D.row q1, D.row q2] [D.int q3, D.row q4, D.row q5] (fun o => K (.bool o) []) = ufun Try.prog ⟨(tb26 fu), pc22 fu⟩ 300 22 [.agg [.int .i64 q, .fz ft3 q1 false, .fz ft4 q2 false], .agg [.int .i64 q3, .fz ft3 q4 false, .fz ft4 q5 false]] [] (funK 0 [.gc] K) := by kernel_rfl

theorem s22 (fu : Nat) : Tells Try.prog 22 (t22 fu) := by
  refine ufun_sound (T := ⟨(tb26 fu), pc22 fu⟩) (m := 0) (gout := [.gc]) (k := 300) (tb26_sound fu) (fun fn body hf hb => ?_) (fun R args s K r h => ?_) (fun R args s K r h => ?_)
  · have hc : body = c22 := by
      have h1 : Try.prog.funcs[22]? = some Try.f22 := rfl
      rw [h1] at hf; cases hf
      have h2 : Try.f22.body = some c22 := rfl
      rw [h2] at hb; cases hb; rfl
    subst hc
    exact fun p told h b hb => by
      replace h : pc22 fu p = some told := h
      unfold pc22 at h
      split at h
      · rename_i hp
        cases h
        have := Nat.eq_of_beq_eq_true hp
        subst this
        rw [a22_58] at hb
        cases hb
        exact ghP_sound (s22_58 fu _)
      ·
        split at h
        · rename_i hp
          cases h
          have := Nat.eq_of_beq_eq_true hp
          subst this
          rw [a22_122] at hb
          cases hb
          exact ghP_sound (s22_122 fu _)
        ·
          cases h

  · unfold t22 at h; split at h
    · rfl
    · cases h
  · unfold t22 at h; split at h
    case h_2 => cases h
    split at h
    case h_2 => cases h
    rename_i hq
    have hq := FT.sames_eq _ _ hq
    subst hq
    split at h
    case h_2 => cases h
    rename_i hq
    have hq := FT.sames_eq _ _ hq
    subst hq
    split at h
    case h_2 => cases h
    rename_i hq
    have hq := FT.sames_eq _ _ hq
    subst hq
    split at h
    case h_2 => cases h
    rename_i hq
    have hq := FT.sames_eq _ _ hq
    subst hq
    exact (e22 R K fu _ _ _ _ _ _).symm.trans h

noncomputable def tb22 (fu : Nat) : FuncId → Option (Bool × ToldF) := fun f => match Nat.beq f 22 with
  | true => some (false, ghF [.fzP 0 [1] ft3, .fzP 0 [2] ft4, .fzP 1 [1] ft3, .fzP 1 [2] ft4] (t22 fu))
  | false => (tb26 fu) f
theorem tb22_sound (fu : Nat) : SoundF' Try.prog (tb22 fu) := by
  intro f own told h
  unfold tb22 at h
  split at h
  · rename_i hb
    cases h
    have := Nat.eq_of_beq_eq_true hb
    subst this
    exact ghF_sound (s22 fu)
  · exact (tb26_sound fu) f own told h

end Go.Proofs.Ytdoikghgblohjaa.V

/- Printed by ugen: daisychain/daisychainlaw18.same -/
namespace Go.Proofs.Ytdoikghgblohjaa.V
set_option maxRecDepth 100000


noncomputable def c21 : Code := match Try.f21.body with | some c => c | none => .skip

noncomputable def F21 {R : Type} (fu : Nat) (a : List D) (b : List D) (k0 : Bool → Option R) : Option R :=
  F27 fu [D.int (cell 0 a).toInt, D.int (cell 1 a).toInt, D.int (cell 2 a).toInt, D.str (cell 3 a).toStr, D.int (cell 4 a).toInt, D.int (cell 5 a).toInt, D.int (cell 6 a).toInt, D.int (cell 7 a).toInt, D.int (cell 8 a).toInt, D.str (cell 9 a).toStr, D.bool (cell 10 a).toBool, D.str (cell 11 a).toStr, D.str (cell 12 a).toStr, D.str (cell 13 a).toStr, D.str (cell 14 a).toStr, D.row (cell 15 a).toRows, D.int (cell 16 a).toInt, D.int (cell 17 a).toInt] fun o0 => F27 fu [D.int (cell 0 b).toInt, D.int (cell 1 b).toInt, D.int (cell 2 b).toInt, D.str (cell 3 b).toStr, D.int (cell 4 b).toInt, D.int (cell 5 b).toInt, D.int (cell 6 b).toInt, D.int (cell 7 b).toInt, D.int (cell 8 b).toInt, D.str (cell 9 b).toStr, D.bool (cell 10 b).toBool, D.str (cell 11 b).toStr, D.str (cell 12 b).toStr, D.str (cell 13 b).toStr, D.str (cell 14 b).toStr, D.row (cell 15 b).toRows, D.int (cell 16 b).toInt, D.int (cell 17 b).toInt] fun o1 => F26 fu [D.int (cell 0 o0).toInt, D.int (cell 1 o0).toInt, D.int (cell 2 o0).toInt, D.str (cell 3 o0).toStr, D.int (cell 4 o0).toInt, D.int (cell 5 o0).toInt, D.int (cell 6 o0).toInt, D.int (cell 7 o0).toInt, D.int (cell 8 o0).toInt, D.str (cell 9 o0).toStr, D.bool (cell 10 o0).toBool, D.str (cell 11 o0).toStr, D.str (cell 12 o0).toStr, D.str (cell 13 o0).toStr, D.str (cell 14 o0).toStr, D.row (cell 15 o0).toRows, D.int (cell 16 o0).toInt, D.int (cell 17 o0).toInt] [D.int (cell 0 o1).toInt, D.int (cell 1 o1).toInt, D.int (cell 2 o1).toInt, D.str (cell 3 o1).toStr, D.int (cell 4 o1).toInt, D.int (cell 5 o1).toInt, D.int (cell 6 o1).toInt, D.int (cell 7 o1).toInt, D.int (cell 8 o1).toInt, D.str (cell 9 o1).toStr, D.bool (cell 10 o1).toBool, D.str (cell 11 o1).toStr, D.str (cell 12 o1).toStr, D.str (cell 13 o1).toStr, D.str (cell 14 o1).toStr, D.row (cell 15 o1).toRows, D.int (cell 16 o1).toInt, D.int (cell 17 o1).toInt] fun o2 => bif o2 then bif decide ((cell 18 a).toInt = (cell 18 b).toInt) then bif decide ((cell 19 a).toInt = (cell 19 b).toInt) then bif (cell 20 a).toBool == (cell 20 b).toBool then F23 fu [D.int (cell 21 a).toInt, D.row (cell 22 a).toRows, D.row (cell 23 a).toRows] fun o3 => F23 fu [D.int (cell 21 b).toInt, D.row (cell 22 b).toRows, D.row (cell 23 b).toRows] fun o4 => F22 fu [D.int (cell 0 o3).toInt, D.row (cell 1 o3).toRows, D.row (cell 2 o3).toRows] [D.int (cell 0 o4).toInt, D.row (cell 1 o4).toRows, D.row (cell 2 o4).toRows] fun o5 => (k0 o5) else (k0 false) else (k0 false) else (k0 false) else (k0 false)

noncomputable def pc21 (fu : Nat) : Nat → Option ToldP := fun _ => none
noncomputable def t21 (fu : Nat) : ToldF := fun _ args s K => match args, s with
  | [.agg (.int .i64 q :: .int .i64 q1 :: .int .i64 q2 :: .str q3 :: .int .i64 q4 :: .int .i64 q5 :: .int .i64 q6 :: .int .i64 q7 :: .int .i64 q8 :: .str q9 :: .bool q10 :: .str q11 :: .str q12 :: .str q13 :: .str q14 :: .fz zq0 q15 false :: .int .i64 q16 :: .int .i64 q17 :: .int .i64 q18 :: .int .i64 q19 :: .bool q20 :: .int .i64 q21 :: .fz zq1 q22 false :: .fz zq2 q23 false :: []), .agg (.int .i64 q24 :: .int .i64 q25 :: .int .i64 q26 :: .str q27 :: .int .i64 q28 :: .int .i64 q29 :: .int .i64 q30 :: .int .i64 q31 :: .int .i64 q32 :: .str q33 :: .bool q34 :: .str q35 :: .str q36 :: .str q37 :: .str q38 :: .fz zq3 q39 false :: .int .i64 q40 :: .int .i64 q41 :: .int .i64 q42 :: .int .i64 q43 :: .bool q44 :: .int .i64 q45 :: .fz zq4 q46 false :: .fz zq5 q47 false :: [])], [] => (match FT.sames zq0 ft2 with | true => (match FT.sames zq1 ft3 with | true => (match FT.sames zq2 ft4 with | true => (match FT.sames zq3 ft2 with | true => (match FT.sames zq4 ft3 with | true => (match FT.sames zq5 ft4 with | true => F21 fu ((D.int q :: D.int q1 :: D.int q2 :: D.str q3 :: D.int q4 :: D.int q5 :: D.int q6 :: D.int q7 :: D.int q8 :: D.str q9 :: D.bool q10 :: D.str q11 :: D.str q12 :: D.str q13 :: D.str q14 :: D.row q15 :: D.int q16 :: D.int q17 :: D.int q18 :: D.int q19 :: D.bool q20 :: D.int q21 :: D.row q22 :: D.row q23 :: [])) ((D.int q24 :: D.int q25 :: D.int q26 :: D.str q27 :: D.int q28 :: D.int q29 :: D.int q30 :: D.int q31 :: D.int q32 :: D.str q33 :: D.bool q34 :: D.str q35 :: D.str q36 :: D.str q37 :: D.str q38 :: D.row q39 :: D.int q40 :: D.int q41 :: D.int q42 :: D.int q43 :: D.bool q44 :: D.int q45 :: D.row q46 :: D.row q47 :: [])) (fun o => K (.bool o) []) | false => none) | false => none) | false => none) | false => none) | false => none) | false => none)
  | _, _ => none

theorem e21 (R : Type) (K : UV → USt → Option R) (fu : Nat) (q : Int) (q1 : Int) (q2 : Int) (q3 : ByteArray) (q4 : Int) (q5 : Int) (q6 : Int) (q7 : Int) (q8 : Int) (q9 : ByteArray) (q10 : Bool) (q11 : ByteArray) (q12 : ByteArray) (q13 : ByteArray) (q14 : ByteArray) (q15 : List (List D)) (q16 : Int) (q17 : Int) (q18 : Int) (q19 : Int) (q20 : Bool) (q21 : Int) (q22 : List (List D)) (q23 : List (List D)) (q24 : Int) (q25 : Int) (q26 : Int) (q27 : ByteArray) (q28 : Int) (q29 : Int) (q30 : Int) (q31 : Int) (q32 : Int) (q33 : ByteArray) (q34 : Bool) (q35 : ByteArray) (q36 : ByteArray) (q37 : ByteArray) (q38 : ByteArray) (q39 : List (List D)) (q40 : Int) (q41 : Int) (q42 : Int) (q43 : Int) (q44 : Bool) (q45 : Int) (q46 : List (List D)) (q47 : List (List D)) :
    F21 fu ((D.int q :: D.int q1 :: D.int q2 :: D.str q3 :: D.int q4 :: D.int q5 :: D.int q6 :: D.int q7 :: D.int q8 :: D.str q9 :: D.bool q10 :: D.str q11 :: D.str q12 :: D.str q13 :: D.str q14 :: D.row q15 :: D.int q16 :: D.int q17 :: D.int q18 :: D.int q19 :: D.bool q20 :: D.int q21 :: D.row q22 :: D.row q23 :: [])) ((D.int q24 :: D.int q25 :: D.int q26 :: D.str q27 :: D.int q28 :: D.int q29 :: D.int q30 :: D.int q31 :: D.int q32 :: D.str q33 :: D.bool q34 :: D.str q35 :: D.str q36 :: D.str q37 :: D.str q38 :: D.row q39 :: D.int q40 :: D.int q41 :: D.int q42 :: D.int q43 :: D.bool q44 :: D.int q45 :: D.row q46 :: D.row q47 :: [])) (fun o => K (.bool o) []) = ufun Try.prog ⟨(tb22 fu), pc21 fu⟩ 300 21 [.agg (.int .i64 q :: .int .i64 q1 :: .int .i64 q2 :: .str q3 :: .int .i64 q4 :: .int .i64 q5 :: .int .i64 q6 :: .int .i64 q7 :: .int .i64 q8 :: .str q9 :: .bool q10 :: .str q11 :: .str q12 :: .str q13 :: .str q14 :: .fz ft2 q15 false :: .int .i64 q16 :: .int .i64 q17 :: .int .i64 q18 :: .int .i64 q19 :: .bool q20 :: .int .i64 q21 :: .fz ft3 q22 false :: .fz ft4 q23 false :: []), .agg (.int .i64 q24 :: .int .i64 q25 :: .int .i64 q26 :: .str q27 :: .int .i64 q28 :: .int .i64 q29 :: .int .i64 q30 :: .int .i64 q31 :: .int .i64 q32 :: .str q33 :: .bool q34 :: .str q35 :: .str q36 :: .str q37 :: .str q38 :: .fz ft2 q39 false :: .int .i64 q40 :: .int .i64 q41 :: .int .i64 q42 :: .int .i64 q43 :: .bool q44 :: .int .i64 q45 :: .fz ft3 q46 false :: .fz ft4 q47 false :: [])] [] (funK 0 [.gc] K) := by kernel_rfl

theorem s21 (fu : Nat) : Tells Try.prog 21 (t21 fu) := by
  refine ufun_sound (T := ⟨(tb22 fu), pc21 fu⟩) (m := 0) (gout := [.gc]) (k := 300) (tb22_sound fu) (fun fn body hf hb => ?_) (fun R args s K r h => ?_) (fun R args s K r h => ?_)
  · have hc : body = c21 := by
      have h1 : Try.prog.funcs[21]? = some Try.f21 := rfl
      rw [h1] at hf; cases hf
      have h2 : Try.f21.body = some c21 := rfl
      rw [h2] at hb; cases hb; rfl
    subst hc
    exact SoundPc.none _ _ _
  · unfold t21 at h; split at h
    · rfl
    · cases h
  · unfold t21 at h; split at h
    case h_2 => cases h
    split at h
    case h_2 => cases h
    rename_i hq
    have hq := FT.sames_eq _ _ hq
    subst hq
    split at h
    case h_2 => cases h
    rename_i hq
    have hq := FT.sames_eq _ _ hq
    subst hq
    split at h
    case h_2 => cases h
    rename_i hq
    have hq := FT.sames_eq _ _ hq
    subst hq
    split at h
    case h_2 => cases h
    rename_i hq
    have hq := FT.sames_eq _ _ hq
    subst hq
    split at h
    case h_2 => cases h
    rename_i hq
    have hq := FT.sames_eq _ _ hq
    subst hq
    split at h
    case h_2 => cases h
    rename_i hq
    have hq := FT.sames_eq _ _ hq
    subst hq
    exact (e21 R K fu _ _ _ _ _ _ _ _ _ _ _ _ _ _ _ _ _ _ _ _ _ _ _ _ _ _ _ _ _ _ _ _ _ _ _ _ _ _ _ _ _ _ _ _ _ _ _ _).symm.trans h

noncomputable def tb21 (fu : Nat) : FuncId → Option (Bool × ToldF) := fun f => match Nat.beq f 21 with
  | true => some (false, ghF [.fzP 0 [15] ft2, .fzP 0 [22] ft3, .fzP 0 [23] ft4, .fzP 1 [15] ft2, .fzP 1 [22] ft3, .fzP 1 [23] ft4] (t21 fu))
  | false => (tb22 fu) f
theorem tb21_sound (fu : Nat) : SoundF' Try.prog (tb21 fu) := by
  intro f own told h
  unfold tb21 at h
  split at h
  · rename_i hb
    cases h
    have := Nat.eq_of_beq_eq_true hb
    subst this
    exact ghF_sound (s21 fu)
  · exact (tb22_sound fu) f own told h

end Go.Proofs.Ytdoikghgblohjaa.V

/- Printed by ugen: daisychain/daisychainlaw09.Few -/
namespace Go.Proofs.Ytdoikghgblohjaa.V
set_option maxRecDepth 100000


noncomputable def code15 : Code := match Try.f15.body with | some c => c | none => .skip
theorem a15_58 : codeAt code15 58 = some (.loop (loopBody (codeAt code15 58))) := by kernel_rfl
theorem a15_14926 : codeAt code15 14926 = some (.loop (loopBody (codeAt code15 14926))) := by kernel_rfl
noncomputable def F15_14926 {R : Type} (fu : Nat) (c15 : List (List D)) : Nat → Int → Int → (Int → Int → Bool → Option R) → (Int → Option R) → Option R
  | 0, _, _, _, _ => none
  | n + 1, n_, j, k0, k1 => bif decide (j < ofN c15.length) then bif decide (j ≤ 20) then bif within j c15.length then (F15_14926 fu c15 n (IntKind.i64.wrap (n_ + ofN (cell 0 (elem j.toNat c15)).toStr.size)) (IntKind.i64.wrap (j + 1)) k0 k1) else none else (k0 n_ j (decide (j ≤ 20))) else (k1 n_)

noncomputable def t15_14926 (fu n : Nat) : ToldP := fun _ e s K => match e, s with
  | [.fz zq0 l false, .undef, .undef, .int .i64 n_, .int .i64 k_, .ptr 0 0, .int .i64 j, .undef, .undef, .undef, .undef, .undef, .int .i64 x, .bool x1], [.obj (.int .i64 c :: .int .i64 c1 :: .int .i64 c2 :: .str c3 :: .int .i64 c4 :: .int .i64 c5 :: .int .i64 c6 :: .int .i64 c7 :: .int .i64 c8 :: .str c9 :: .bool c10 :: .str c11 :: .str c12 :: .str c13 :: .str c14 :: .fz zq1 c15 false :: .int .i64 c16 :: .int .i64 c17 :: [])] => (match FT.sames zq0 ft5 with | true => (match FT.sames zq1 ft2 with | true => F15_14926 fu c15 n n_ j (fun o o1 o2 => K (.exit 2) (.fz ft5 (l) false :: .undef :: .undef :: .int .i64 o :: .int .i64 (k_) :: .undef :: .undef :: .undef :: .undef :: .undef :: .undef :: .undef :: .int .i64 (x) :: .bool (x1) :: .undef :: .undef :: .undef :: .undef :: .undef :: .undef :: .undef :: .undef :: .undef :: .undef :: .undef :: .undef :: .undef :: .undef :: .undef :: .undef :: .undef :: .undef :: .undef :: .undef :: .undef :: .undef :: .undef :: .undef :: .undef :: .undef :: .undef :: .undef :: .undef :: .undef :: .undef :: .undef :: .undef :: .undef :: .undef :: .undef :: .undef :: .undef :: .undef :: .undef :: .undef :: .undef :: .undef :: .undef :: .int .i64 o1 :: .bool o2 :: .undef :: .undef :: .undef :: .undef :: .undef :: .undef :: .undef :: .undef :: .undef :: .undef :: .undef :: .undef :: .undef :: .undef :: .undef :: .undef :: .undef :: []) []) (fun o => K (.exit 2) (.fz ft5 (l) false :: .undef :: .undef :: .int .i64 o :: .int .i64 (k_) :: .undef :: .undef :: .undef :: .undef :: .undef :: .undef :: .undef :: .int .i64 (x) :: .bool (x1) :: .undef :: .undef :: .undef :: .undef :: .undef :: .undef :: .undef :: .undef :: .undef :: .undef :: .undef :: .undef :: .undef :: .undef :: .undef :: .undef :: .undef :: .undef :: .undef :: .undef :: .undef :: .undef :: .undef :: .undef :: .undef :: .undef :: .undef :: .undef :: .undef :: .undef :: .undef :: .undef :: .undef :: .undef :: .undef :: .undef :: .undef :: .undef :: .undef :: .undef :: .undef :: .undef :: .undef :: .undef :: .tuple [] :: .tuple [] :: .undef :: .undef :: .undef :: .undef :: .undef :: .undef :: .undef :: .undef :: .undef :: .undef :: .undef :: .undef :: .undef :: .undef :: .undef :: .undef :: .undef :: []) []) | false => none) | false => none)
  | _, _ => none

noncomputable def pc15_14926 (fu : Nat) : Nat → Option ToldP := fun _ => none
theorem e15_14926 (fu n : Nat) (R : Type) (K : VExit → UEnv → USt → Option R) (l : List (List D)) (n_ : Int) (k_ : Int) (j : Int) (x : Int) (x1 : Bool) (c : Int) (c1 : Int) (c2 : Int) (c3 : ByteArray) (c4 : Int) (c5 : Int) (c6 : Int) (c7 : Int) (c8 : Int) (c9 : ByteArray) (c10 : Bool) (c11 : ByteArray) (c12 : ByteArray) (c13 : ByteArray) (c14 : ByteArray) (c15 : List (List D)) (c16 : Int) (c17 : Int) :
    F15_14926 fu c15 (n + 1) n_ j (fun o o1 o2 => K (.exit 2) (.fz ft5 (l) false :: .undef :: .undef :: .int .i64 o :: .int .i64 (k_) :: .undef :: .undef :: .undef :: .undef :: .undef :: .undef :: .undef :: .int .i64 (x) :: .bool (x1) :: .undef :: .undef :: .undef :: .undef :: .undef :: .undef :: .undef :: .undef :: .undef :: .undef :: .undef :: .undef :: .undef :: .undef :: .undef :: .undef :: .undef :: .undef :: .undef :: .undef :: .undef :: .undef :: .undef :: .undef :: .undef :: .undef :: .undef :: .undef :: .undef :: .undef :: .undef :: .undef :: .undef :: .undef :: .undef :: .undef :: .undef :: .undef :: .undef :: .undef :: .undef :: .undef :: .undef :: .undef :: .int .i64 o1 :: .bool o2 :: .undef :: .undef :: .undef :: .undef :: .undef :: .undef :: .undef :: .undef :: .undef :: .undef :: .undef :: .undef :: .undef :: .undef :: .undef :: .undef :: .undef :: []) []) (fun o => K (.exit 2) (.fz ft5 (l) false :: .undef :: .undef :: .int .i64 o :: .int .i64 (k_) :: .undef :: .undef :: .undef :: .undef :: .undef :: .undef :: .undef :: .int .i64 (x) :: .bool (x1) :: .undef :: .undef :: .undef :: .undef :: .undef :: .undef :: .undef :: .undef :: .undef :: .undef :: .undef :: .undef :: .undef :: .undef :: .undef :: .undef :: .undef :: .undef :: .undef :: .undef :: .undef :: .undef :: .undef :: .undef :: .undef :: .undef :: .undef :: .undef :: .undef :: .undef :: .undef :: .undef :: .undef :: .undef :: .undef :: .undef :: .undef :: .undef :: .undef :: .undef :: .undef :: .undef :: .undef :: .undef :: .tuple [] :: .tuple [] :: .undef :: .undef :: .undef :: .undef :: .undef :: .undef :: .undef :: .undef :: .undef :: .undef :: .undef :: .undef :: .undef :: .undef :: .undef :: .undef :: .undef :: []) []) = uexec Try.prog (tb21 fu) 300 (pc15_14926 fu) 29852 (loopBody (codeAt code15 14926)) [.fz ft5 l false, .undef, .undef, .int .i64 n_, .int .i64 k_, .ptr 0 0, .int .i64 j, .undef, .undef, .undef, .undef, .undef, .int .i64 x, .bool x1] [.obj (.int .i64 c :: .int .i64 c1 :: .int .i64 c2 :: .str c3 :: .int .i64 c4 :: .int .i64 c5 :: .int .i64 c6 :: .int .i64 c7 :: .int .i64 c8 :: .str c9 :: .bool c10 :: .str c11 :: .str c12 :: .str c13 :: .str c14 :: .fz ft2 c15 false :: .int .i64 c16 :: .int .i64 c17 :: [])] (loopK 0 [.live [true, false, false, true, true, true, true, false, false, false, false, false, true, true], .fzP 0 [] ft5, .gc, .fzC 0 15 ft2, .gc] [.live (true :: false :: true :: true :: true :: false :: false :: false :: false :: false :: false :: false :: true :: true :: false :: false :: false :: false :: false :: false :: false :: false :: false :: false :: false :: false :: false :: false :: false :: false :: false :: false :: false :: false :: false :: false :: false :: false :: false :: false :: false :: false :: false :: false :: false :: false :: false :: false :: false :: false :: false :: false :: false :: false :: false :: false :: false :: false :: true :: true :: false :: false :: false :: false :: false :: false :: false :: false :: false :: false :: false :: false :: false :: false :: false :: true :: true :: []), .gc] (t15_14926 fu n) K) := by kernel_rfl

theorem p15_14926 (fu : Nat) : SoundPc Try.prog 0 code15 (pc15_14926 fu) := SoundPc.none _ _ _
theorem s15_14926 (fu : Nat) : ∀ n, SoundP Try.prog 0 (.loop (loopBody (codeAt code15 14926))) (t15_14926 fu n) := by
  refine loop_sound (gin := [.live [true, false, false, true, true, true, true, false, false, false, false, false, true, true], .fzP 0 [] ft5, .gc, .fzC 0 15 ft2, .gc]) (gout := [.live (true :: false :: true :: true :: true :: false :: false :: false :: false :: false :: false :: false :: true :: true :: false :: false :: false :: false :: false :: false :: false :: false :: false :: false :: false :: false :: false :: false :: false :: false :: false :: false :: false :: false :: false :: false :: false :: false :: false :: false :: false :: false :: false :: false :: false :: false :: false :: false :: false :: false :: false :: false :: false :: false :: false :: false :: false :: false :: true :: true :: false :: false :: false :: false :: false :: false :: false :: false :: false :: false :: false :: false :: false :: false :: false :: true :: true :: []), .gc]) (k := 300) (tb21_sound fu) (p15_14926 fu) (by decide) a15_14926 (fun R e s K => ?_) (fun n R e s K r h => ?_)
  · unfold t15_14926; repeat' split
    all_goals rfl
  · unfold t15_14926 at h; split at h
    case h_2 => cases h
    split at h
    case h_2 => cases h
    rename_i hq
    have hq := FT.sames_eq _ _ hq
    subst hq
    split at h
    case h_2 => cases h
    rename_i hq
    have hq := FT.sames_eq _ _ hq
    subst hq
    exact (e15_14926 fu n R K _ _ _ _ _ _ _ _ _ _ _ _ _ _ _ _ _ _ _ _ _ _ _ _).symm.trans h

noncomputable def F15_58 {R : Type} (fu : Nat) (l : List (List D)) : Nat → Int → Int → (Int → Option R) → Option R
  | 0, _, _, _ => none
  | n + 1, n_, k_, k0 => bif decide (k_ < ofN l.length) then bif decide (k_ ≤ 60) then bif within k_ l.length then F15_14926 fu (cell 15 (elem k_.toNat l)).toRows fu (IntKind.i64.wrap (n_ + IntKind.i64.wrap (IntKind.i64.wrap (IntKind.i64.wrap (IntKind.i64.wrap (IntKind.i64.wrap (IntKind.i64.wrap (ofN (cell 11 (elem k_.toNat l)).toStr.size + ofN (cell 12 (elem k_.toNat l)).toStr.size) + ofN (cell 13 (elem k_.toNat l)).toStr.size) + ofN (cell 14 (elem k_.toNat l)).toStr.size) + ofN (cell 3 (elem k_.toNat l)).toStr.size) + ofN (cell 9 (elem k_.toNat l)).toStr.size) + IntKind.i64.wrap (8 * ofN (cell 15 (elem k_.toNat l)).toRows.length)))) 0 (fun o0 o1 o2 => (F15_58 fu l n o0 (IntKind.i64.wrap (k_ + 1)) k0)) fun o3 => (F15_58 fu l n o3 (IntKind.i64.wrap (k_ + 1)) k0) else none else (k0 n_) else (k0 n_)

noncomputable def t15_58 (fu n : Nat) : ToldP := fun _ e s K => match e, s with
  | [.fz zq0 l false, .undef, .undef, .int .i64 n_, .int .i64 k_], [] => (match FT.sames zq0 ft5 with | true => F15_58 fu l n n_ k_ (fun o => K (.exit 0) (.fz ft5 (l) false :: .undef :: .undef :: .int .i64 o :: .undef :: .undef :: .undef :: .undef :: .undef :: .undef :: .undef :: .undef :: .undef :: .undef :: .undef :: .undef :: .undef :: .undef :: .undef :: .undef :: .undef :: .undef :: .undef :: .undef :: .undef :: .undef :: .undef :: .undef :: .undef :: .undef :: .undef :: .undef :: .undef :: .undef :: .undef :: .undef :: .undef :: .undef :: .undef :: .undef :: .undef :: .undef :: .undef :: .undef :: .undef :: .undef :: .undef :: .undef :: .undef :: .undef :: .undef :: .undef :: .undef :: .undef :: .undef :: .undef :: .undef :: .undef :: .undef :: .undef :: .undef :: .undef :: .undef :: .undef :: .undef :: .undef :: .undef :: .undef :: .undef :: .undef :: .undef :: .undef :: .undef :: .undef :: .undef :: .undef :: .undef :: []) []) | false => none)
  | _, _ => none

noncomputable def pc15_58 (fu : Nat) : Nat → Option ToldP := fun p => match Nat.beq p 14926 with | true => some (ghP 0 [.live [true, false, false, true, true, true, true, false, false, false, false, false, true, true], .fzP 0 [] ft5, .gc, .fzC 0 15 ft2, .gc] (t15_14926 fu fu)) | false => none
theorem e15_58 (fu n : Nat) (R : Type) (K : VExit → UEnv → USt → Option R) (l : List (List D)) (n_ : Int) (k_ : Int) :
    F15_58 fu l (n + 1) n_ k_ (fun o => K (.exit 0) (.fz ft5 (l) false :: .undef :: .undef :: .int .i64 o :: .undef :: .undef :: .undef :: .undef :: .undef :: .undef :: .undef :: .undef :: .undef :: .undef :: .undef :: .undef :: .undef :: .undef :: .undef :: .undef :: .undef :: .undef :: .undef :: .undef :: .undef :: .undef :: .undef :: .undef :: .undef :: .undef :: .undef :: .undef :: .undef :: .undef :: .undef :: .undef :: .undef :: .undef :: .undef :: .undef :: .undef :: .undef :: .undef :: .undef :: .undef :: .undef :: .undef :: .undef :: .undef :: .undef :: .undef :: .undef :: .undef :: .undef :: .undef :: .undef :: .undef :: .undef :: .undef :: .undef :: .undef :: .undef :: .undef :: .undef :: .undef :: .undef :: .undef :: .undef :: .undef :: .undef :: .undef :: .undef :: .undef :: .undef :: .undef :: .undef :: .undef :: []) []) = uexec Try.prog (tb21 fu) 300 (pc15_58 fu) 116 (loopBody (codeAt code15 58)) [.fz ft5 l false, .undef, .undef, .int .i64 n_, .int .i64 k_] [] (loopK 0 [.live [true, false, false, true, true], .fzP 0 [] ft5, .gc] [.live (true :: false :: true :: true :: false :: false :: false :: false :: false :: false :: false :: false :: false :: false :: false :: false :: false :: false :: false :: false :: false :: false :: false :: false :: false :: false :: false :: false :: false :: false :: false :: false :: false :: false :: false :: false :: false :: false :: false :: false :: false :: false :: false :: false :: false :: false :: false :: false :: false :: false :: false :: false :: false :: false :: false :: false :: false :: false :: false :: false :: false :: false :: false :: false :: false :: false :: false :: false :: false :: false :: false :: false :: false :: false :: false :: true :: true :: []), .gc] (t15_58 fu n) K) := by kernel_rfl

theorem p15_58 (fu : Nat) : SoundPc Try.prog 0 code15 (pc15_58 fu) := fun p told h b hb => by
  replace h : pc15_58 fu p = some told := h
  unfold pc15_58 at h
  split at h
  · rename_i hp
    cases h
    have := Nat.eq_of_beq_eq_true hp
    subst this
    rw [a15_14926] at hb
    cases hb
    exact ghP_sound (s15_14926 fu _)
  ·
    cases h

theorem s15_58 (fu : Nat) : ∀ n, SoundP Try.prog 0 (.loop (loopBody (codeAt code15 58))) (t15_58 fu n) := by
  refine loop_sound (gin := [.live [true, false, false, true, true], .fzP 0 [] ft5, .gc]) (gout := [.live (true :: false :: true :: true :: false :: false :: false :: false :: false :: false :: false :: false :: false :: false :: false :: false :: false :: false :: false :: false :: false :: false :: false :: false :: false :: false :: false :: false :: false :: false :: false :: false :: false :: false :: false :: false :: false :: false :: false :: false :: false :: false :: false :: false :: false :: false :: false :: false :: false :: false :: false :: false :: false :: false :: false :: false :: false :: false :: false :: false :: false :: false :: false :: false :: false :: false :: false :: false :: false :: false :: false :: false :: false :: false :: false :: true :: true :: []), .gc]) (k := 300) (tb21_sound fu) (p15_58 fu) (by decide) a15_58 (fun R e s K => ?_) (fun n R e s K r h => ?_)
  · unfold t15_58; repeat' split
    all_goals rfl
  · unfold t15_58 at h; split at h
    case h_2 => cases h
    split at h
    case h_2 => cases h
    rename_i hq
    have hq := FT.sames_eq _ _ hq
    subst hq
    exact (e15_58 fu n R K _ _ _).symm.trans h


noncomputable def F15 {R : Type} (fu : Nat) (l : List (List D)) (k0 : Bool → Option R) : Option R :=
  F15_58 fu l fu 0 0 fun o0 => bif decide (ofN l.length ≤ 60) then (k0 (decide (o0 ≤ 6000))) else (k0 false)

noncomputable def pc15 (fu : Nat) : Nat → Option ToldP := fun p => match Nat.beq p 58 with | true => some (ghP 0 [.live [true, false, false, true, true], .fzP 0 [] ft5, .gc] (t15_58 fu fu)) | false => none
noncomputable def t15 (fu : Nat) : ToldF := fun _ args s K => match args, s with
  | [.fz zq0 l false], [] => (match FT.sames zq0 ft5 with | true => F15 fu l (fun o => K (.bool o) []) | false => none)
  | _, _ => none

theorem e15 (R : Type) (K : UV → USt → Option R) (fu : Nat) (l : List (List D)) :
    F15 fu l (fun o => K (.bool o) []) = ufun Try.prog ⟨(tb21 fu), pc15 fu⟩ 300 15 [.fz ft5 l false] [] (funK 0 [.gc] K) := by kernel_rfl

theorem s15 (fu : Nat) : Tells Try.prog 15 (t15 fu) := by
  refine ufun_sound (T := ⟨(tb21 fu), pc15 fu⟩) (m := 0) (gout := [.gc]) (k := 300) (tb21_sound fu) (fun fn body hf hb => ?_) (fun R args s K r h => ?_) (fun R args s K r h => ?_)
  · have hc : body = code15 := by
      have h1 : Try.prog.funcs[15]? = some Try.f15 := rfl
      rw [h1] at hf; cases hf
      have h2 : Try.f15.body = some code15 := rfl
      rw [h2] at hb; cases hb; rfl
    subst hc
    exact fun p told h b hb => by
      replace h : pc15 fu p = some told := h
      unfold pc15 at h
      split at h
      · rename_i hp
        cases h
        have := Nat.eq_of_beq_eq_true hp
        subst this
        rw [a15_58] at hb
        cases hb
        exact ghP_sound (s15_58 fu _)
      ·
        cases h

  · unfold t15 at h; split at h
    · rfl
    · cases h
  · unfold t15 at h; split at h
    case h_2 => cases h
    split at h
    case h_2 => cases h
    rename_i hq
    have hq := FT.sames_eq _ _ hq
    subst hq
    exact (e15 R K fu _).symm.trans h

noncomputable def tb15 (fu : Nat) : FuncId → Option (Bool × ToldF) := fun f => match Nat.beq f 15 with
  | true => some (false, ghF [.fzP 0 [] ft5] (t15 fu))
  | false => (tb21 fu) f
theorem tb15_sound (fu : Nat) : SoundF' Try.prog (tb15 fu) := by
  intro f own told h
  unfold tb15 at h
  split at h
  · rename_i hb
    cases h
    have := Nat.eq_of_beq_eq_true hb
    subst this
    exact ghF_sound (s15 fu)
  · exact (tb21_sound fu) f own told h

end Go.Proofs.Ytdoikghgblohjaa.V

/- Printed by ugen: daisychain/daisychainlaw18.few -/
namespace Go.Proofs.Ytdoikghgblohjaa.V
set_option maxRecDepth 100000

abbrev ft9 : List FT := [FT.int IntKind.i64, FT.int IntKind.i64, FT.int IntKind.i64, FT.int IntKind.i64, FT.int IntKind.i64, FT.str, FT.int IntKind.i64, FT.int IntKind.i64, FT.int IntKind.i64, FT.int IntKind.i64, FT.int IntKind.i64, FT.str, FT.bool, FT.str, FT.str, FT.str, FT.str, FT.row 16 [FT.str], FT.int IntKind.i64, FT.int IntKind.i64, FT.int IntKind.i64, FT.row 8 [FT.int IntKind.i64], FT.row 64 [FT.int IntKind.i64, FT.int IntKind.i64, FT.str, FT.str, FT.str]]

noncomputable def code28 : Code := match Try.f28.body with | some c => c | none => .skip
theorem a28_58 : codeAt code28 58 = some (.loop (loopBody (codeAt code28 58))) := by kernel_rfl
noncomputable def F28_58 {R : Type} (fu : Nat) (l : List (List D)) : Nat → Int → (List (List D)) → ((List (List D)) → Option R) → ((List (List D)) → Option R) → Option R
  | 0, _, _, _, _ => none
  | n + 1, k_, all, k0, k1 => bif decide (k_ < ofN l.length) then bif decide (k_ ≤ 60) then bif within k_ l.length then bif fits (all.length + 1) 208 then bif within k_ l.length then bif decide (30 < ofN (cell 21 (elem k_.toNat l)).toRows.length) then (k0 (all ++ [[D.int (cell 2 (elem k_.toNat l)).toInt, D.int (cell 3 (elem k_.toNat l)).toInt, D.int (cell 4 (elem k_.toNat l)).toInt, D.str (cell 5 (elem k_.toNat l)).toStr, D.int (cell 6 (elem k_.toNat l)).toInt, D.int (cell 7 (elem k_.toNat l)).toInt, D.int (cell 8 (elem k_.toNat l)).toInt, D.int (cell 9 (elem k_.toNat l)).toInt, D.int (cell 10 (elem k_.toNat l)).toInt, D.str (cell 11 (elem k_.toNat l)).toStr, D.bool (cell 12 (elem k_.toNat l)).toBool, D.str (cell 13 (elem k_.toNat l)).toStr, D.str (cell 14 (elem k_.toNat l)).toStr, D.str (cell 15 (elem k_.toNat l)).toStr, D.str (cell 16 (elem k_.toNat l)).toStr, D.row (cell 17 (elem k_.toNat l)).toRows, D.int (cell 18 (elem k_.toNat l)).toInt, D.int (cell 19 (elem k_.toNat l)).toInt]])) else bif within k_ l.length then bif decide (30 < ofN (cell 22 (elem k_.toNat l)).toRows.length) then (k0 (all ++ [[D.int (cell 2 (elem k_.toNat l)).toInt, D.int (cell 3 (elem k_.toNat l)).toInt, D.int (cell 4 (elem k_.toNat l)).toInt, D.str (cell 5 (elem k_.toNat l)).toStr, D.int (cell 6 (elem k_.toNat l)).toInt, D.int (cell 7 (elem k_.toNat l)).toInt, D.int (cell 8 (elem k_.toNat l)).toInt, D.int (cell 9 (elem k_.toNat l)).toInt, D.int (cell 10 (elem k_.toNat l)).toInt, D.str (cell 11 (elem k_.toNat l)).toStr, D.bool (cell 12 (elem k_.toNat l)).toBool, D.str (cell 13 (elem k_.toNat l)).toStr, D.str (cell 14 (elem k_.toNat l)).toStr, D.str (cell 15 (elem k_.toNat l)).toStr, D.str (cell 16 (elem k_.toNat l)).toStr, D.row (cell 17 (elem k_.toNat l)).toRows, D.int (cell 18 (elem k_.toNat l)).toInt, D.int (cell 19 (elem k_.toNat l)).toInt]])) else (F28_58 fu l n (IntKind.i64.wrap (k_ + 1)) (all ++ [[D.int (cell 2 (elem k_.toNat l)).toInt, D.int (cell 3 (elem k_.toNat l)).toInt, D.int (cell 4 (elem k_.toNat l)).toInt, D.str (cell 5 (elem k_.toNat l)).toStr, D.int (cell 6 (elem k_.toNat l)).toInt, D.int (cell 7 (elem k_.toNat l)).toInt, D.int (cell 8 (elem k_.toNat l)).toInt, D.int (cell 9 (elem k_.toNat l)).toInt, D.int (cell 10 (elem k_.toNat l)).toInt, D.str (cell 11 (elem k_.toNat l)).toStr, D.bool (cell 12 (elem k_.toNat l)).toBool, D.str (cell 13 (elem k_.toNat l)).toStr, D.str (cell 14 (elem k_.toNat l)).toStr, D.str (cell 15 (elem k_.toNat l)).toStr, D.str (cell 16 (elem k_.toNat l)).toStr, D.row (cell 17 (elem k_.toNat l)).toRows, D.int (cell 18 (elem k_.toNat l)).toInt, D.int (cell 19 (elem k_.toNat l)).toInt]]) k0 k1) else none else none else none else none else (k1 all) else (k1 all)

noncomputable def t28_58 (fu n : Nat) : ToldP := fun _ e s K => match e, s with
  | [.fz zq0 l false, .undef, .undef, .own 0, .int .i64 k_], [.row zq1 all] => (match FT.sames zq0 ft9 with | true => (match FT.sames zq1 ft5 with | true => F28_58 fu l n k_ all (fun o => K .ret (.fz ft9 (l) false :: .undef :: .bool (false) :: .own 0 :: .undef :: .undef :: .undef :: .undef :: .undef :: .undef :: .undef :: .undef :: .undef :: .undef :: .undef :: .undef :: .undef :: .undef :: .undef :: .undef :: .undef :: .undef :: .undef :: .undef :: .undef :: .undef :: .undef :: .undef :: .undef :: .undef :: .undef :: .undef :: .undef :: .undef :: .undef :: .undef :: .undef :: .undef :: .undef :: .undef :: .undef :: .undef :: .undef :: .undef :: .undef :: .undef :: .undef :: []) [.row ft5 o]) (fun o => K (.exit 0) (.fz ft9 (l) false :: .undef :: .undef :: .own 0 :: .undef :: .undef :: .undef :: .undef :: .undef :: .undef :: .undef :: .undef :: .undef :: .undef :: .undef :: .undef :: .undef :: .undef :: .undef :: .undef :: .undef :: .undef :: .undef :: .undef :: .undef :: .undef :: .undef :: .undef :: .undef :: .undef :: .undef :: .undef :: .undef :: .undef :: .undef :: .undef :: .undef :: .undef :: .undef :: .undef :: .undef :: .undef :: .undef :: .undef :: .undef :: .undef :: .undef :: []) [.row ft5 o]) | false => none) | false => none)
  | _, _ => none

noncomputable def pc28_58 (fu : Nat) : Nat → Option ToldP := fun _ => none
theorem e28_58 (fu n : Nat) (R : Type) (K : VExit → UEnv → USt → Option R) (l : List (List D)) (k_ : Int) (all : List (List D)) :
    F28_58 fu l (n + 1) k_ all (fun o => K .ret (.fz ft9 (l) false :: .undef :: .bool (false) :: .own 0 :: .undef :: .undef :: .undef :: .undef :: .undef :: .undef :: .undef :: .undef :: .undef :: .undef :: .undef :: .undef :: .undef :: .undef :: .undef :: .undef :: .undef :: .undef :: .undef :: .undef :: .undef :: .undef :: .undef :: .undef :: .undef :: .undef :: .undef :: .undef :: .undef :: .undef :: .undef :: .undef :: .undef :: .undef :: .undef :: .undef :: .undef :: .undef :: .undef :: .undef :: .undef :: .undef :: .undef :: []) [.row ft5 o]) (fun o => K (.exit 0) (.fz ft9 (l) false :: .undef :: .undef :: .own 0 :: .undef :: .undef :: .undef :: .undef :: .undef :: .undef :: .undef :: .undef :: .undef :: .undef :: .undef :: .undef :: .undef :: .undef :: .undef :: .undef :: .undef :: .undef :: .undef :: .undef :: .undef :: .undef :: .undef :: .undef :: .undef :: .undef :: .undef :: .undef :: .undef :: .undef :: .undef :: .undef :: .undef :: .undef :: .undef :: .undef :: .undef :: .undef :: .undef :: .undef :: .undef :: .undef :: .undef :: []) [.row ft5 o]) = uexec Try.prog (tb15 fu) 300 (pc28_58 fu) 116 (loopBody (codeAt code28 58)) [.fz ft9 l false, .undef, .undef, .own 0, .int .i64 k_] [.row ft5 all] (loopK 0 [.live [true, false, false, true, true], .fzP 0 [] ft9, .ownP 3 [] ft5, .gc] [.live (true :: false :: true :: true :: false :: false :: false :: false :: false :: false :: false :: false :: false :: false :: false :: false :: false :: false :: false :: false :: false :: false :: false :: false :: false :: false :: false :: false :: false :: false :: false :: false :: false :: false :: false :: false :: false :: false :: false :: false :: false :: false :: false :: false :: false :: true :: true :: []), .gc] (t28_58 fu n) K) := by kernel_rfl

theorem p28_58 (fu : Nat) : SoundPc Try.prog 0 code28 (pc28_58 fu) := SoundPc.none _ _ _
theorem s28_58 (fu : Nat) : ∀ n, SoundP Try.prog 0 (.loop (loopBody (codeAt code28 58))) (t28_58 fu n) := by
  refine loop_sound (gin := [.live [true, false, false, true, true], .fzP 0 [] ft9, .ownP 3 [] ft5, .gc]) (gout := [.live (true :: false :: true :: true :: false :: false :: false :: false :: false :: false :: false :: false :: false :: false :: false :: false :: false :: false :: false :: false :: false :: false :: false :: false :: false :: false :: false :: false :: false :: false :: false :: false :: false :: false :: false :: false :: false :: false :: false :: false :: false :: false :: false :: false :: false :: true :: true :: []), .gc]) (k := 300) (tb15_sound fu) (p28_58 fu) (by decide) a28_58 (fun R e s K => ?_) (fun n R e s K r h => ?_)
  · unfold t28_58; repeat' split
    all_goals rfl
  · unfold t28_58 at h; split at h
    case h_2 => cases h
    split at h
    case h_2 => cases h
    rename_i hq
    have hq := FT.sames_eq _ _ hq
    subst hq
    split at h
    case h_2 => cases h
    rename_i hq
    have hq := FT.sames_eq _ _ hq
    subst hq
    exact (e28_58 fu n R K _ _ _).symm.trans h


noncomputable def F28 {R : Type} (fu : Nat) (l : List (List D)) (k0 : Bool → Option R) : Option R :=
  F28_58 fu l fu 0 [] (fun o0 => (k0 false)) fun o1 => bif decide (ofN l.length ≤ 60) then F15 fu o1 fun o2 => (k0 o2) else (k0 false)

noncomputable def pc28 (fu : Nat) : Nat → Option ToldP := fun p => match Nat.beq p 58 with | true => some (ghP 0 [.live [true, false, false, true, true], .fzP 0 [] ft9, .ownP 3 [] ft5, .gc] (t28_58 fu fu)) | false => none
noncomputable def t28 (fu : Nat) : ToldF := fun _ args s K => match args, s with
  | [.fz zq0 l false], [] => (match FT.sames zq0 ft9 with | true => F28 fu l (fun o => K (.bool o) []) | false => none)
  | _, _ => none

theorem e28 (R : Type) (K : UV → USt → Option R) (fu : Nat) (l : List (List D)) :
    F28 fu l (fun o => K (.bool o) []) = ufun Try.prog ⟨(tb15 fu), pc28 fu⟩ 300 28 [.fz ft9 l false] [] (funK 0 [.gc] K) := by kernel_rfl

theorem s28 (fu : Nat) : Tells Try.prog 28 (t28 fu) := by
  refine ufun_sound (T := ⟨(tb15 fu), pc28 fu⟩) (m := 0) (gout := [.gc]) (k := 300) (tb15_sound fu) (fun fn body hf hb => ?_) (fun R args s K r h => ?_) (fun R args s K r h => ?_)
  · have hc : body = code28 := by
      have h1 : Try.prog.funcs[28]? = some Try.f28 := rfl
      rw [h1] at hf; cases hf
      have h2 : Try.f28.body = some code28 := rfl
      rw [h2] at hb; cases hb; rfl
    subst hc
    exact fun p told h b hb => by
      replace h : pc28 fu p = some told := h
      unfold pc28 at h
      split at h
      · rename_i hp
        cases h
        have := Nat.eq_of_beq_eq_true hp
        subst this
        rw [a28_58] at hb
        cases hb
        exact ghP_sound (s28_58 fu _)
      ·
        cases h

  · unfold t28 at h; split at h
    · rfl
    · cases h
  · unfold t28 at h; split at h
    case h_2 => cases h
    split at h
    case h_2 => cases h
    rename_i hq
    have hq := FT.sames_eq _ _ hq
    subst hq
    exact (e28 R K fu _).symm.trans h

noncomputable def tb28 (fu : Nat) : FuncId → Option (Bool × ToldF) := fun f => match Nat.beq f 28 with
  | true => some (false, ghF [.fzP 0 [] ft9] (t28 fu))
  | false => (tb15 fu) f
theorem tb28_sound (fu : Nat) : SoundF' Try.prog (tb28 fu) := by
  intro f own told h
  unfold tb28 at h
  split at h
  · rename_i hb
    cases h
    have := Nat.eq_of_beq_eq_true hb
    subst this
    exact ghF_sound (s28 fu)
  · exact (tb15_sound fu) f own told h

end Go.Proofs.Ytdoikghgblohjaa.V

/- Printed by ugen: daisychain/daisychainlaw18.awake -/
namespace Go.Proofs.Ytdoikghgblohjaa.V
set_option maxRecDepth 100000


noncomputable def code16 : Code := match Try.f16.body with | some c => c | none => .skip

noncomputable def F16 {R : Type} (fu : Nat) (k0 : Bool → Option R) : Option R :=
  F17 fu 4 ((k0 false)) (F18 fu 7 [D.int 0, D.int 0, D.int 4, D.str { data := #[113] }, D.int 0, D.int 0, D.int 0, D.int 0, D.int 0, D.str { data := #[] }, D.bool false, D.str { data := #[] }, D.str { data := #[] }, D.str { data := #[] }, D.str { data := #[] }, D.row [], D.int 0, D.int 0] 4 [] false (F18 fu 8 [D.int 0, D.int 0, D.int 0, D.str { data := #[] }, D.int 0, D.int 0, D.int 0, D.int 0, D.int 0, D.str { data := #[] }, D.bool false, D.str { data := #[] }, D.str { data := #[] }, D.str { data := #[] }, D.str { data := #[] }, D.row [], D.int 0, D.int 0] 4 [] false (F19 fu 9 2 [D.int 0, D.row [], D.row []] 4 [] false fun o0 o1 o2 => F19 fu 9 1 [D.int 6, D.row [], D.row []] 4 o2 o1 fun o3 o4 o5 => F20 fu 4 o5 o4 fun o6 => (k0 false)) fun o7 o8 => F19 fu 9 2 [D.int 0, D.row [], D.row []] 4 o8 true fun o9 o10 o11 => F19 fu 9 1 [D.int 6, D.row [], D.row []] 4 o11 o10 fun o12 o13 o14 => F20 fu 4 o14 o13 fun o15 => (k0 false)) fun o16 o17 => F18 fu 8 [D.int 0, D.int 0, D.int 0, D.str { data := #[] }, D.int 0, D.int 0, D.int 0, D.int 0, D.int 0, D.str { data := #[] }, D.bool false, D.str { data := #[] }, D.str { data := #[] }, D.str { data := #[] }, D.str { data := #[] }, D.row [], D.int 0, D.int 0] 4 o17 true (F19 fu 9 2 [D.int 0, D.row [], D.row []] 4 o17 true fun o18 o19 o20 => F19 fu 9 1 [D.int 6, D.row [], D.row []] 4 o20 o19 fun o21 o22 o23 => F20 fu 4 o23 o22 fun o24 => bif decide ((cell 0 o16).toInt = 4) then bif decide ((cell 1 o16).toInt = 1) then bif strEq (cell 3 o16).toStr { data := #[113] } then bif !o18 then bif o21 then bif decide (ofN o24.length = 1) then bif within 0 o24.length then bif (cell 20 (elem 0 o24)).toBool then bif within 0 o24.length then bif decide ((cell 21 (elem 0 o24)).toInt = 6) then bif within 0 o24.length then bif decide ((cell 18 (elem 0 o24)).toInt = 7) then bif within 0 o24.length then (k0 (decide ((cell 19 (elem 0 o24)).toInt = 9))) else none else (k0 false) else none else (k0 false) else none else (k0 false) else none else (k0 false) else (k0 false) else (k0 false) else (k0 false) else (k0 false) else (k0 false)) fun o25 o26 => F19 fu 9 2 [D.int 0, D.row [], D.row []] 4 o26 true fun o27 o28 o29 => F19 fu 9 1 [D.int 6, D.row [], D.row []] 4 o29 o28 fun o30 o31 o32 => F20 fu 4 o32 o31 fun o33 => (k0 false))

noncomputable def pc16 (fu : Nat) : Nat → Option ToldP := fun _ => none
noncomputable def t16 (fu : Nat) : ToldF := fun _ args s K => match args, s with
  | [], [] => F16 fu  (fun o => K (.bool o) [])
  | _, _ => none

theorem e16 (R : Type) (K : UV → USt → Option R) (fu : Nat) :
    F16 fu  (fun o => K (.bool o) []) = ufun Try.prog ⟨(tb28 fu), pc16 fu⟩ 300 16 [] [] (funK 0 [.gc] K) := by kernel_rfl

theorem s16 (fu : Nat) : Tells Try.prog 16 (t16 fu) := by
  refine ufun_sound (T := ⟨(tb28 fu), pc16 fu⟩) (m := 0) (gout := [.gc]) (k := 300) (tb28_sound fu) (fun fn body hf hb => ?_) (fun R args s K r h => ?_) (fun R args s K r h => ?_)
  · have hc : body = code16 := by
      have h1 : Try.prog.funcs[16]? = some Try.f16 := rfl
      rw [h1] at hf; cases hf
      have h2 : Try.f16.body = some code16 := rfl
      rw [h2] at hb; cases hb; rfl
    subst hc
    exact SoundPc.none _ _ _
  · unfold t16 at h; split at h
    · rfl
    · cases h
  · unfold t16 at h; split at h
    case h_2 => cases h
    exact (e16 R K fu).symm.trans h

noncomputable def tb16 (fu : Nat) : FuncId → Option (Bool × ToldF) := fun f => match Nat.beq f 16 with
  | true => some (false, ghF [] (t16 fu))
  | false => (tb28 fu) f
theorem tb16_sound (fu : Nat) : SoundF' Try.prog (tb16 fu) := by
  intro f own told h
  unfold tb16 at h
  split at h
  · rename_i hb
    cases h
    have := Nat.eq_of_beq_eq_true hb
    subst this
    exact ghF_sound (s16 fu)
  · exact (tb28_sound fu) f own told h

end Go.Proofs.Ytdoikghgblohjaa.V

/- Printed by ugen: daisychain/daisychainlaw18.ClientCounts -/
namespace Go.Proofs.Ytdoikghgblohjaa.V
set_option maxRecDepth 100000

abbrev ft10 : List FT := [FT.bool]

noncomputable def code4 : Code := match Try.f4.body with | some c => c | none => .skip
theorem a4_250 : codeAt code4 250 = some (.loop (loopBody (codeAt code4 250))) := by kernel_rfl
noncomputable def F4_250 {R : Type} (fu : Nat) (id : Int) (x : List (List D)) (x1 : Int) (c : Int) : Nat → Int → Int → Bool → (List (List D)) → (Int → (List (List D)) → Option R) → (Int → Bool → (List (List D)) → Option R) → Option R
  | 0, _, _, _, _, _, _ => none
  | n + 1, n_, x2, c1, y, k0, k1 => bif decide (x2 < x1) then bif within x2 x.length then F18 fu n_ [D.int 0, D.int 0, D.int 3, D.str { data := #[] }, D.int 0, D.int 0, D.int 0, D.int 0, D.int 0, D.str { data := #[] }, D.bool false, D.str { data := #[] }, D.str { data := #[] }, D.str { data := #[] }, D.str { data := #[] }, D.row [], D.int 0, D.int 0] c y c1 (bif (cell 0 (elem x2.toNat x)).toBool then F24 fu c y c1 ((F4_250 fu id x x1 c n n_ (IntKind.i64.wrap (x2 + 1)) false y k0 k1)) else (F4_250 fu id x x1 c n n_ (IntKind.i64.wrap (x2 + 1)) c1 y k0 k1)) fun o0 o1 => bif !decide ((cell 0 o0).toInt = id) then (k0 (IntKind.i64.wrap (n_ + 1)) o1) else bif !decide ((cell 1 o0).toInt = IntKind.i64.wrap (n_ + 1)) then (k0 (IntKind.i64.wrap (n_ + 1)) o1) else bif (cell 0 (elem x2.toNat x)).toBool then F24 fu c o1 true ((F4_250 fu id x x1 c n (IntKind.i64.wrap (n_ + 1)) (IntKind.i64.wrap (x2 + 1)) false o1 k0 k1)) else (F4_250 fu id x x1 c n (IntKind.i64.wrap (n_ + 1)) (IntKind.i64.wrap (x2 + 1)) true o1 k0 k1) else none else (k1 n_ c1 y)

noncomputable def t4_250 (fu n : Nat) : ToldP := fun _ e s K => match e, s with
  | (.int .i64 id :: .undef :: .undef :: .undef :: .undef :: .ptr 0 0 :: .int .i64 n_ :: .undef :: .undef :: .undef :: .undef :: .undef :: .undef :: .undef :: .undef :: .undef :: .undef :: .undef :: .undef :: .undef :: .undef :: .undef :: .undef :: .undef :: .undef :: .undef :: .undef :: .undef :: .undef :: .undef :: .undef :: .undef :: .undef :: .undef :: .undef :: .undef :: .undef :: .fz zq0 x false :: .int .i64 x1 :: .int .i64 x2 :: []), [.obj [.int .i64 c, .own 1, .bool c1], .row zq1 y] => (match FT.sames zq0 ft10 with | true => (match FT.sames zq1 ft7 with | true => F4_250 fu id x x1 c n n_ x2 c1 y (fun o o1 => K .ret (.undef :: .undef :: .undef :: .undef :: .bool (false) :: .ptr 0 0 :: .int .i64 o :: .undef :: .undef :: .undef :: .undef :: .undef :: .undef :: .undef :: .undef :: .undef :: .undef :: .undef :: .undef :: .undef :: .undef :: .undef :: .undef :: .undef :: .undef :: .undef :: .undef :: .undef :: .undef :: .undef :: .undef :: .undef :: .undef :: .undef :: .undef :: .undef :: .undef :: .undef :: .undef :: .undef :: .undef :: .undef :: .undef :: .undef :: .undef :: .undef :: .undef :: .undef :: .undef :: .undef :: .undef :: .undef :: .undef :: .undef :: .undef :: .undef :: .undef :: .undef :: .undef :: .undef :: .undef :: .undef :: .undef :: .undef :: .undef :: .undef :: .undef :: .undef :: .undef :: .undef :: .undef :: .undef :: .undef :: .undef :: .undef :: .undef :: .undef :: .undef :: .undef :: .undef :: .undef :: .undef :: .undef :: .undef :: .undef :: .undef :: .undef :: .undef :: .undef :: .undef :: .undef :: .undef :: .undef :: .undef :: .undef :: .undef :: .undef :: .undef :: .undef :: .undef :: .undef :: []) [.obj [.int .i64 (c), .own 1, .bool (true)], .row ft7 o1]) (fun o o1 o2 => K (.exit 0) (.undef :: .undef :: .undef :: .undef :: .undef :: .ptr 0 0 :: .int .i64 o :: .undef :: .undef :: .undef :: .undef :: .undef :: .undef :: .undef :: .undef :: .undef :: .undef :: .undef :: .undef :: .undef :: .undef :: .undef :: .undef :: .undef :: .undef :: .undef :: .undef :: .undef :: .undef :: .undef :: .undef :: .undef :: .undef :: .undef :: .undef :: .undef :: .undef :: .undef :: .undef :: .undef :: .undef :: .undef :: .undef :: .undef :: .undef :: .undef :: .undef :: .undef :: .undef :: .undef :: .undef :: .undef :: .undef :: .undef :: .undef :: .undef :: .undef :: .undef :: .undef :: .undef :: .undef :: .undef :: .undef :: .undef :: .undef :: .undef :: .undef :: .undef :: .undef :: .undef :: .undef :: .undef :: .undef :: .undef :: .undef :: .undef :: .undef :: .undef :: .undef :: .undef :: .undef :: .undef :: .undef :: .undef :: .undef :: .undef :: .undef :: .undef :: .undef :: .undef :: .undef :: .undef :: .undef :: .undef :: .undef :: .undef :: .undef :: .undef :: .undef :: .undef :: .undef :: []) [.obj [.int .i64 (c), .own 1, .bool o1], .row ft7 o2]) | false => none) | false => none)
  | _, _ => none

noncomputable def pc4_250 (fu : Nat) : Nat → Option ToldP := fun _ => none
theorem e4_250 (fu n : Nat) (R : Type) (K : VExit → UEnv → USt → Option R) (id : Int) (n_ : Int) (x : List (List D)) (x1 : Int) (x2 : Int) (c : Int) (c1 : Bool) (y : List (List D)) :
    F4_250 fu id x x1 c (n + 1) n_ x2 c1 y (fun o o1 => K .ret (.undef :: .undef :: .undef :: .undef :: .bool (false) :: .ptr 0 0 :: .int .i64 o :: .undef :: .undef :: .undef :: .undef :: .undef :: .undef :: .undef :: .undef :: .undef :: .undef :: .undef :: .undef :: .undef :: .undef :: .undef :: .undef :: .undef :: .undef :: .undef :: .undef :: .undef :: .undef :: .undef :: .undef :: .undef :: .undef :: .undef :: .undef :: .undef :: .undef :: .undef :: .undef :: .undef :: .undef :: .undef :: .undef :: .undef :: .undef :: .undef :: .undef :: .undef :: .undef :: .undef :: .undef :: .undef :: .undef :: .undef :: .undef :: .undef :: .undef :: .undef :: .undef :: .undef :: .undef :: .undef :: .undef :: .undef :: .undef :: .undef :: .undef :: .undef :: .undef :: .undef :: .undef :: .undef :: .undef :: .undef :: .undef :: .undef :: .undef :: .undef :: .undef :: .undef :: .undef :: .undef :: .undef :: .undef :: .undef :: .undef :: .undef :: .undef :: .undef :: .undef :: .undef :: .undef :: .undef :: .undef :: .undef :: .undef :: .undef :: .undef :: .undef :: .undef :: .undef :: []) [.obj [.int .i64 (c), .own 1, .bool (true)], .row ft7 o1]) (fun o o1 o2 => K (.exit 0) (.undef :: .undef :: .undef :: .undef :: .undef :: .ptr 0 0 :: .int .i64 o :: .undef :: .undef :: .undef :: .undef :: .undef :: .undef :: .undef :: .undef :: .undef :: .undef :: .undef :: .undef :: .undef :: .undef :: .undef :: .undef :: .undef :: .undef :: .undef :: .undef :: .undef :: .undef :: .undef :: .undef :: .undef :: .undef :: .undef :: .undef :: .undef :: .undef :: .undef :: .undef :: .undef :: .undef :: .undef :: .undef :: .undef :: .undef :: .undef :: .undef :: .undef :: .undef :: .undef :: .undef :: .undef :: .undef :: .undef :: .undef :: .undef :: .undef :: .undef :: .undef :: .undef :: .undef :: .undef :: .undef :: .undef :: .undef :: .undef :: .undef :: .undef :: .undef :: .undef :: .undef :: .undef :: .undef :: .undef :: .undef :: .undef :: .undef :: .undef :: .undef :: .undef :: .undef :: .undef :: .undef :: .undef :: .undef :: .undef :: .undef :: .undef :: .undef :: .undef :: .undef :: .undef :: .undef :: .undef :: .undef :: .undef :: .undef :: .undef :: .undef :: .undef :: .undef :: []) [.obj [.int .i64 (c), .own 1, .bool o1], .row ft7 o2]) = uexec Try.prog (tb16 fu) 300 (pc4_250 fu) 500 (loopBody (codeAt code4 250)) (.int .i64 id :: .undef :: .undef :: .undef :: .undef :: .ptr 0 0 :: .int .i64 n_ :: .undef :: .undef :: .undef :: .undef :: .undef :: .undef :: .undef :: .undef :: .undef :: .undef :: .undef :: .undef :: .undef :: .undef :: .undef :: .undef :: .undef :: .undef :: .undef :: .undef :: .undef :: .undef :: .undef :: .undef :: .undef :: .undef :: .undef :: .undef :: .undef :: .undef :: .fz ft10 x false :: .int .i64 x1 :: .int .i64 x2 :: []) [.obj [.int .i64 c, .own 1, .bool c1], .row ft7 y] (loopK 0 [.live (true :: false :: false :: false :: false :: true :: true :: false :: false :: false :: false :: false :: false :: false :: false :: false :: false :: false :: false :: false :: false :: false :: false :: false :: false :: false :: false :: false :: false :: false :: false :: false :: false :: false :: false :: false :: false :: true :: true :: true :: []), .fzP 37 [] ft10, .gc, .ownC 0 1 ft7, .gc] [.live (false :: false :: false :: false :: true :: true :: true :: false :: false :: false :: false :: false :: false :: false :: false :: false :: false :: false :: false :: false :: false :: false :: false :: false :: false :: false :: false :: false :: false :: false :: false :: false :: false :: false :: false :: false :: false :: false :: false :: false :: false :: false :: false :: false :: false :: false :: false :: false :: false :: false :: false :: false :: false :: false :: false :: false :: false :: false :: false :: false :: false :: false :: false :: false :: false :: false :: false :: false :: false :: false :: false :: false :: false :: false :: false :: false :: false :: false :: false :: false :: false :: false :: false :: false :: true :: true :: true :: true :: true :: true :: false :: false :: true :: true :: true :: true :: false :: false :: true :: true :: true :: []), .gc] (t4_250 fu n) K) := by kernel_rfl

theorem p4_250 (fu : Nat) : SoundPc Try.prog 0 code4 (pc4_250 fu) := SoundPc.none _ _ _
theorem s4_250 (fu : Nat) : ∀ n, SoundP Try.prog 0 (.loop (loopBody (codeAt code4 250))) (t4_250 fu n) := by
  refine loop_sound (gin := [.live (true :: false :: false :: false :: false :: true :: true :: false :: false :: false :: false :: false :: false :: false :: false :: false :: false :: false :: false :: false :: false :: false :: false :: false :: false :: false :: false :: false :: false :: false :: false :: false :: false :: false :: false :: false :: false :: true :: true :: true :: []), .fzP 37 [] ft10, .gc, .ownC 0 1 ft7, .gc]) (gout := [.live (false :: false :: false :: false :: true :: true :: true :: false :: false :: false :: false :: false :: false :: false :: false :: false :: false :: false :: false :: false :: false :: false :: false :: false :: false :: false :: false :: false :: false :: false :: false :: false :: false :: false :: false :: false :: false :: false :: false :: false :: false :: false :: false :: false :: false :: false :: false :: false :: false :: false :: false :: false :: false :: false :: false :: false :: false :: false :: false :: false :: false :: false :: false :: false :: false :: false :: false :: false :: false :: false :: false :: false :: false :: false :: false :: false :: false :: false :: false :: false :: false :: false :: false :: false :: true :: true :: true :: true :: true :: true :: false :: false :: true :: true :: true :: true :: false :: false :: true :: true :: true :: []), .gc]) (k := 300) (tb16_sound fu) (p4_250 fu) (by decide) a4_250 (fun R e s K => ?_) (fun n R e s K r h => ?_)
  · unfold t4_250; repeat' split
    all_goals rfl
  · unfold t4_250 at h; split at h
    case h_2 => cases h
    split at h
    case h_2 => cases h
    rename_i hq
    have hq := FT.sames_eq _ _ hq
    subst hq
    split at h
    case h_2 => cases h
    rename_i hq
    have hq := FT.sames_eq _ _ hq
    subst hq
    exact (e4_250 fu n R K _ _ _ _ _ _ _ _).symm.trans h

theorem a4_2042 : codeAt code4 2042 = some (.loop (loopBody (codeAt code4 2042))) := by kernel_rfl
noncomputable def F4_2042 {R : Type} (fu : Nat) (x : Int) (x2 : List (List D)) : Nat → Int → (Option R) → (Option R) → Option R
  | 0, _, _, _ => none
  | n + 1, x1, k0, k1 => bif decide (x1 < x) then bif within x1 x2.length then bif (cell 20 (elem x1.toNat x2)).toBool then (k0) else bif !decide ((cell 1 (elem x1.toNat x2)).toInt = IntKind.i64.wrap (x1 + 1)) then (k0) else bif !decide ((cell 18 (elem x1.toNat x2)).toInt = x1) then (k0) else bif !decide ((cell 19 (elem x1.toNat x2)).toInt = 0) then (k0) else (F4_2042 fu x x2 n (IntKind.i64.wrap (x1 + 1)) k0 k1) else none else (k1)

noncomputable def t4_2042 (fu n : Nat) : ToldP := fun _ e s K => match e, s with
  | (.undef :: .undef :: .undef :: .undef :: .undef :: .undef :: .undef :: .undef :: .undef :: .undef :: .undef :: .undef :: .undef :: .undef :: .undef :: .undef :: .undef :: .undef :: .undef :: .undef :: .undef :: .undef :: .undef :: .undef :: .undef :: .undef :: .undef :: .undef :: .undef :: .undef :: .undef :: .undef :: .undef :: .undef :: .undef :: .undef :: .undef :: .undef :: .undef :: .undef :: .undef :: .undef :: .undef :: .undef :: .undef :: .undef :: .undef :: .undef :: .undef :: .undef :: .undef :: .undef :: .undef :: .undef :: .undef :: .undef :: .undef :: .undef :: .undef :: .undef :: .undef :: .undef :: .undef :: .undef :: .undef :: .undef :: .undef :: .undef :: .undef :: .undef :: .undef :: .undef :: .undef :: .undef :: .own 0 :: .int .i64 x :: .int .i64 x1 :: []), [.row zq0 x2] => (match FT.sames zq0 ft7 with | true => F4_2042 fu x x2 n x1 (K .ret [.undef, .undef, .undef, .undef, .bool (false)] []) (K (.exit 2) [.undef, .undef, .undef, .undef, .undef] []) | false => none)
  | _, _ => none

noncomputable def pc4_2042 (fu : Nat) : Nat → Option ToldP := fun _ => none
theorem e4_2042 (fu n : Nat) (R : Type) (K : VExit → UEnv → USt → Option R) (x : Int) (x1 : Int) (x2 : List (List D)) :
    F4_2042 fu x x2 (n + 1) x1 (K .ret [.undef, .undef, .undef, .undef, .bool (false)] []) (K (.exit 2) [.undef, .undef, .undef, .undef, .undef] []) = uexec Try.prog (tb16 fu) 300 (pc4_2042 fu) 4084 (loopBody (codeAt code4 2042)) (.undef :: .undef :: .undef :: .undef :: .undef :: .undef :: .undef :: .undef :: .undef :: .undef :: .undef :: .undef :: .undef :: .undef :: .undef :: .undef :: .undef :: .undef :: .undef :: .undef :: .undef :: .undef :: .undef :: .undef :: .undef :: .undef :: .undef :: .undef :: .undef :: .undef :: .undef :: .undef :: .undef :: .undef :: .undef :: .undef :: .undef :: .undef :: .undef :: .undef :: .undef :: .undef :: .undef :: .undef :: .undef :: .undef :: .undef :: .undef :: .undef :: .undef :: .undef :: .undef :: .undef :: .undef :: .undef :: .undef :: .undef :: .undef :: .undef :: .undef :: .undef :: .undef :: .undef :: .undef :: .undef :: .undef :: .undef :: .undef :: .undef :: .undef :: .undef :: .undef :: .undef :: .undef :: .own 0 :: .int .i64 x :: .int .i64 x1 :: []) [.row ft7 x2] (loopK 0 [.live (false :: false :: false :: false :: false :: false :: false :: false :: false :: false :: false :: false :: false :: false :: false :: false :: false :: false :: false :: false :: false :: false :: false :: false :: false :: false :: false :: false :: false :: false :: false :: false :: false :: false :: false :: false :: false :: false :: false :: false :: false :: false :: false :: false :: false :: false :: false :: false :: false :: false :: false :: false :: false :: false :: false :: false :: false :: false :: false :: false :: false :: false :: false :: false :: false :: false :: false :: false :: false :: false :: false :: false :: false :: false :: true :: true :: true :: []), .ownP 74 [] ft7, .gc] [.live [false, false, false, false, true], .gc] (t4_2042 fu n) K) := by kernel_rfl

theorem p4_2042 (fu : Nat) : SoundPc Try.prog 0 code4 (pc4_2042 fu) := SoundPc.none _ _ _
theorem s4_2042 (fu : Nat) : ∀ n, SoundP Try.prog 0 (.loop (loopBody (codeAt code4 2042))) (t4_2042 fu n) := by
  refine loop_sound (gin := [.live (false :: false :: false :: false :: false :: false :: false :: false :: false :: false :: false :: false :: false :: false :: false :: false :: false :: false :: false :: false :: false :: false :: false :: false :: false :: false :: false :: false :: false :: false :: false :: false :: false :: false :: false :: false :: false :: false :: false :: false :: false :: false :: false :: false :: false :: false :: false :: false :: false :: false :: false :: false :: false :: false :: false :: false :: false :: false :: false :: false :: false :: false :: false :: false :: false :: false :: false :: false :: false :: false :: false :: false :: false :: false :: true :: true :: true :: []), .ownP 74 [] ft7, .gc]) (gout := [.live [false, false, false, false, true], .gc]) (k := 300) (tb16_sound fu) (p4_2042 fu) (by decide) a4_2042 (fun R e s K => ?_) (fun n R e s K r h => ?_)
  · unfold t4_2042; repeat' split
    all_goals rfl
  · unfold t4_2042 at h; split at h
    case h_2 => cases h
    split at h
    case h_2 => cases h
    rename_i hq
    have hq := FT.sames_eq _ _ hq
    subst hq
    exact (e4_2042 fu n R K _ _ _).symm.trans h


noncomputable def F4 {R : Type} (fu : Nat) (id : Int) (gives : List (List D)) (k0 : Bool → Option R) : Option R :=
  F17 fu id (bif decide (id < 1) then F16 fu fun o0 => (k0 o0) else bif decide (60 < id) then F16 fu fun o1 => (k0 o1) else bif decide (60 < ofN gives.length) then F16 fu fun o2 => (k0 o2) else (k0 false)) (bif decide (60 < ofN gives.length) then bif decide (id < 1) then F16 fu fun o3 => (k0 o3) else bif decide (60 < id) then F16 fu fun o4 => (k0 o4) else bif decide (60 < ofN gives.length) then F16 fu fun o5 => (k0 o5) else (k0 false) else F4_250 fu id gives (ofN gives.length) id fu 0 0 false [] (fun o6 o7 => (k0 false)) fun o8 o9 o10 => F20 fu id o10 o9 fun o11 => bif !decide (ofN o11.length = o8) then (k0 false) else F4_2042 fu (ofN o11.length) o11 fu 0 ((k0 false)) (F16 fu fun o12 => (k0 o12)))

noncomputable def pc4 (fu : Nat) : Nat → Option ToldP := fun p => match Nat.beq p 250 with | true => some (ghP 0 [.live (true :: false :: false :: false :: false :: true :: true :: false :: false :: false :: false :: false :: false :: false :: false :: false :: false :: false :: false :: false :: false :: false :: false :: false :: false :: false :: false :: false :: false :: false :: false :: false :: false :: false :: false :: false :: false :: true :: true :: true :: []), .fzP 37 [] ft10, .gc, .ownC 0 1 ft7, .gc] (t4_250 fu fu)) | false => match Nat.beq p 2042 with | true => some (ghP 0 [.live (false :: false :: false :: false :: false :: false :: false :: false :: false :: false :: false :: false :: false :: false :: false :: false :: false :: false :: false :: false :: false :: false :: false :: false :: false :: false :: false :: false :: false :: false :: false :: false :: false :: false :: false :: false :: false :: false :: false :: false :: false :: false :: false :: false :: false :: false :: false :: false :: false :: false :: false :: false :: false :: false :: false :: false :: false :: false :: false :: false :: false :: false :: false :: false :: false :: false :: false :: false :: false :: false :: false :: false :: false :: false :: true :: true :: true :: []), .ownP 74 [] ft7, .gc] (t4_2042 fu fu)) | false => none
noncomputable def t4 (fu : Nat) : ToldF := fun _ args s K => match args, s with
  | [.int .i64 id, .fz zq0 gives false], [] => (match FT.sames zq0 ft10 with | true => F4 fu id gives (fun o => K (.bool o) []) | false => none)
  | _, _ => none

theorem e4 (R : Type) (K : UV → USt → Option R) (fu : Nat) (id : Int) (gives : List (List D)) :
    F4 fu id gives (fun o => K (.bool o) []) = ufun Try.prog ⟨(tb16 fu), pc4 fu⟩ 300 4 [.int .i64 id, .fz ft10 gives false] [] (funK 0 [.gc] K) := by kernel_rfl

theorem s4 (fu : Nat) : Tells Try.prog 4 (t4 fu) := by
  refine ufun_sound (T := ⟨(tb16 fu), pc4 fu⟩) (m := 0) (gout := [.gc]) (k := 300) (tb16_sound fu) (fun fn body hf hb => ?_) (fun R args s K r h => ?_) (fun R args s K r h => ?_)
  · have hc : body = code4 := by
      have h1 : Try.prog.funcs[4]? = some Try.f4 := rfl
      rw [h1] at hf; cases hf
      have h2 : Try.f4.body = some code4 := rfl
      rw [h2] at hb; cases hb; rfl
    subst hc
    exact fun p told h b hb => by
      replace h : pc4 fu p = some told := h
      unfold pc4 at h
      split at h
      · rename_i hp
        cases h
        have := Nat.eq_of_beq_eq_true hp
        subst this
        rw [a4_250] at hb
        cases hb
        exact ghP_sound (s4_250 fu _)
      ·
        split at h
        · rename_i hp
          cases h
          have := Nat.eq_of_beq_eq_true hp
          subst this
          rw [a4_2042] at hb
          cases hb
          exact ghP_sound (s4_2042 fu _)
        ·
          cases h

  · unfold t4 at h; split at h
    · rfl
    · cases h
  · unfold t4 at h; split at h
    case h_2 => cases h
    split at h
    case h_2 => cases h
    rename_i hq
    have hq := FT.sames_eq _ _ hq
    subst hq
    exact (e4 R K fu _ _).symm.trans h

noncomputable def tb4 (fu : Nat) : FuncId → Option (Bool × ToldF) := fun f => match Nat.beq f 4 with
  | true => some (false, ghF [.fzP 1 [] ft10] (t4 fu))
  | false => (tb16 fu) f
theorem tb4_sound (fu : Nat) : SoundF' Try.prog (tb4 fu) := by
  intro f own told h
  unfold tb4 at h
  split at h
  · rename_i hb
    cases h
    have := Nat.eq_of_beq_eq_true hb
    subst this
    exact ghF_sound (s4 fu)
  · exact (tb16_sound fu) f own told h

end Go.Proofs.Ytdoikghgblohjaa.V

/- Printed by ugen: daisychain/daisychainlaw18.ClientOpens -/
namespace Go.Proofs.Ytdoikghgblohjaa.V
set_option maxRecDepth 100000


noncomputable def code5 : Code := match Try.f5.body with | some c => c | none => .skip

noncomputable def F5 {R : Type} (fu : Nat) (cmd : List D) (req : Int) (gives : Bool) (k0 : Bool → Option R) : Option R :=
  F17 fu 7 ((k0 false)) (F15 fu [[D.int (cell 0 cmd).toInt, D.int (cell 1 cmd).toInt, D.int (cell 2 cmd).toInt, D.str (cell 3 cmd).toStr, D.int (cell 4 cmd).toInt, D.int (cell 5 cmd).toInt, D.int (cell 6 cmd).toInt, D.int (cell 7 cmd).toInt, D.int (cell 8 cmd).toInt, D.str (cell 9 cmd).toStr, D.bool (cell 10 cmd).toBool, D.str (cell 11 cmd).toStr, D.str (cell 12 cmd).toStr, D.str (cell 13 cmd).toStr, D.str (cell 14 cmd).toStr, D.row (cell 15 cmd).toRows, D.int (cell 16 cmd).toInt, D.int (cell 17 cmd).toInt]] fun o0 => bif !o0 then F16 fu fun o1 => (k0 o1) else F18 fu 1 [D.int (cell 0 cmd).toInt, D.int (cell 1 cmd).toInt, D.int (cell 2 cmd).toInt, D.str (cell 3 cmd).toStr, D.int (cell 4 cmd).toInt, D.int (cell 5 cmd).toInt, D.int (cell 6 cmd).toInt, D.int (cell 7 cmd).toInt, D.int (cell 8 cmd).toInt, D.str (cell 9 cmd).toStr, D.bool (cell 10 cmd).toBool, D.str (cell 11 cmd).toStr, D.str (cell 12 cmd).toStr, D.str (cell 13 cmd).toStr, D.str (cell 14 cmd).toStr, D.row (cell 15 cmd).toRows, D.int (cell 16 cmd).toInt, D.int (cell 17 cmd).toInt] 7 [] false (F25 fu 7 [] false fun o2 o3 => (k0 false)) fun o4 o5 => F25 fu 7 o5 true fun o6 o7 => bif !o7 then (k0 false) else F27 fu [D.int (cell 0 o4).toInt, D.int (cell 1 o4).toInt, D.int (cell 2 o4).toInt, D.str (cell 3 o4).toStr, D.int (cell 4 o4).toInt, D.int (cell 5 o4).toInt, D.int (cell 6 o4).toInt, D.int (cell 7 o4).toInt, D.int (cell 8 o4).toInt, D.str (cell 9 o4).toStr, D.bool (cell 10 o4).toBool, D.str (cell 11 o4).toStr, D.str (cell 12 o4).toStr, D.str (cell 13 o4).toStr, D.str (cell 14 o4).toStr, D.row (cell 15 o4).toRows, D.int (cell 16 o4).toInt, D.int (cell 17 o4).toInt] fun o8 => F27 fu [D.int (cell 0 o6).toInt, D.int (cell 1 o6).toInt, D.int (cell 2 o6).toInt, D.str (cell 3 o6).toStr, D.int (cell 4 o6).toInt, D.int (cell 5 o6).toInt, D.int (cell 6 o6).toInt, D.int (cell 7 o6).toInt, D.int (cell 8 o6).toInt, D.str (cell 9 o6).toStr, D.bool (cell 10 o6).toBool, D.str (cell 11 o6).toStr, D.str (cell 12 o6).toStr, D.str (cell 13 o6).toStr, D.str (cell 14 o6).toStr, D.row (cell 15 o6).toRows, D.int (cell 16 o6).toInt, D.int (cell 17 o6).toInt] fun o9 => F26 fu [D.int (cell 0 o8).toInt, D.int (cell 1 o8).toInt, D.int (cell 2 o8).toInt, D.str (cell 3 o8).toStr, D.int (cell 4 o8).toInt, D.int (cell 5 o8).toInt, D.int (cell 6 o8).toInt, D.int (cell 7 o8).toInt, D.int (cell 8 o8).toInt, D.str (cell 9 o8).toStr, D.bool (cell 10 o8).toBool, D.str (cell 11 o8).toStr, D.str (cell 12 o8).toStr, D.str (cell 13 o8).toStr, D.str (cell 14 o8).toStr, D.row (cell 15 o8).toRows, D.int (cell 16 o8).toInt, D.int (cell 17 o8).toInt] [D.int (cell 0 o9).toInt, D.int (cell 1 o9).toInt, D.int (cell 2 o9).toInt, D.str (cell 3 o9).toStr, D.int (cell 4 o9).toInt, D.int (cell 5 o9).toInt, D.int (cell 6 o9).toInt, D.int (cell 7 o9).toInt, D.int (cell 8 o9).toInt, D.str (cell 9 o9).toStr, D.bool (cell 10 o9).toBool, D.str (cell 11 o9).toStr, D.str (cell 12 o9).toStr, D.str (cell 13 o9).toStr, D.str (cell 14 o9).toStr, D.row (cell 15 o9).toRows, D.int (cell 16 o9).toInt, D.int (cell 17 o9).toInt] fun o10 => bif !o10 then (k0 false) else bif !decide ((cell 1 o6).toInt = 1) then (k0 false) else bif !decide ((cell 0 o6).toInt = 7) then (k0 false) else bif gives then F24 fu 7 o5 true (F25 fu 7 o5 false fun o11 o12 => bif gives then bif o12 == false then F16 fu fun o13 => (k0 o13) else (k0 false) else bif true == decide (req = 1) then bif o12 == false then F16 fu fun o14 => (k0 o14) else (k0 false) else (k0 false)) else F19 fu 2 req [D.int 0, D.row [], D.row []] 7 o5 true fun o15 o16 o17 => F25 fu 7 o17 o16 fun o18 o19 => bif gives then bif o15 == true then bif o19 == !o15 then F16 fu fun o20 => (k0 o20) else (k0 false) else (k0 false) else bif o15 == decide (req = 1) then bif o19 == !o15 then F16 fu fun o21 => (k0 o21) else (k0 false) else (k0 false))

noncomputable def pc5 (fu : Nat) : Nat → Option ToldP := fun _ => none
noncomputable def t5 (fu : Nat) : ToldF := fun _ args s K => match args, s with
  | [.agg (.int .i64 q :: .int .i64 q1 :: .int .i64 q2 :: .str q3 :: .int .i64 q4 :: .int .i64 q5 :: .int .i64 q6 :: .int .i64 q7 :: .int .i64 q8 :: .str q9 :: .bool q10 :: .str q11 :: .str q12 :: .str q13 :: .str q14 :: .fz zq0 q15 false :: .int .i64 q16 :: .int .i64 q17 :: []), .int .i64 req, .bool gives], [] => (match FT.sames zq0 ft2 with | true => F5 fu ((D.int q :: D.int q1 :: D.int q2 :: D.str q3 :: D.int q4 :: D.int q5 :: D.int q6 :: D.int q7 :: D.int q8 :: D.str q9 :: D.bool q10 :: D.str q11 :: D.str q12 :: D.str q13 :: D.str q14 :: D.row q15 :: D.int q16 :: D.int q17 :: [])) req gives (fun o => K (.bool o) []) | false => none)
  | _, _ => none

theorem e5 (R : Type) (K : UV → USt → Option R) (fu : Nat) (q : Int) (q1 : Int) (q2 : Int) (q3 : ByteArray) (q4 : Int) (q5 : Int) (q6 : Int) (q7 : Int) (q8 : Int) (q9 : ByteArray) (q10 : Bool) (q11 : ByteArray) (q12 : ByteArray) (q13 : ByteArray) (q14 : ByteArray) (q15 : List (List D)) (q16 : Int) (q17 : Int) (req : Int) (gives : Bool) :
    F5 fu ((D.int q :: D.int q1 :: D.int q2 :: D.str q3 :: D.int q4 :: D.int q5 :: D.int q6 :: D.int q7 :: D.int q8 :: D.str q9 :: D.bool q10 :: D.str q11 :: D.str q12 :: D.str q13 :: D.str q14 :: D.row q15 :: D.int q16 :: D.int q17 :: [])) req gives (fun o => K (.bool o) []) = ufun Try.prog ⟨(tb4 fu), pc5 fu⟩ 300 5 [.agg (.int .i64 q :: .int .i64 q1 :: .int .i64 q2 :: .str q3 :: .int .i64 q4 :: .int .i64 q5 :: .int .i64 q6 :: .int .i64 q7 :: .int .i64 q8 :: .str q9 :: .bool q10 :: .str q11 :: .str q12 :: .str q13 :: .str q14 :: .fz ft2 q15 false :: .int .i64 q16 :: .int .i64 q17 :: []), .int .i64 req, .bool gives] [] (funK 0 [.gc] K) := by kernel_rfl

theorem s5 (fu : Nat) : Tells Try.prog 5 (t5 fu) := by
  refine ufun_sound (T := ⟨(tb4 fu), pc5 fu⟩) (m := 0) (gout := [.gc]) (k := 300) (tb4_sound fu) (fun fn body hf hb => ?_) (fun R args s K r h => ?_) (fun R args s K r h => ?_)
  · have hc : body = code5 := by
      have h1 : Try.prog.funcs[5]? = some Try.f5 := rfl
      rw [h1] at hf; cases hf
      have h2 : Try.f5.body = some code5 := rfl
      rw [h2] at hb; cases hb; rfl
    subst hc
    exact SoundPc.none _ _ _
  · unfold t5 at h; split at h
    · rfl
    · cases h
  · unfold t5 at h; split at h
    case h_2 => cases h
    split at h
    case h_2 => cases h
    rename_i hq
    have hq := FT.sames_eq _ _ hq
    subst hq
    exact (e5 R K fu _ _ _ _ _ _ _ _ _ _ _ _ _ _ _ _ _ _ _ _).symm.trans h

noncomputable def tb5 (fu : Nat) : FuncId → Option (Bool × ToldF) := fun f => match Nat.beq f 5 with
  | true => some (false, ghF [.fzP 0 [15] ft2] (t5 fu))
  | false => (tb4 fu) f
theorem tb5_sound (fu : Nat) : SoundF' Try.prog (tb5 fu) := by
  intro f own told h
  unfold tb5 at h
  split at h
  · rename_i hb
    cases h
    have := Nat.eq_of_beq_eq_true hb
    subst this
    exact ghF_sound (s5 fu)
  · exact (tb4_sound fu) f own told h

end Go.Proofs.Ytdoikghgblohjaa.V

/- Printed by ugen: daisychain/daisychainlaw18.ClientCalls -/
namespace Go.Proofs.Ytdoikghgblohjaa.V
set_option maxRecDepth 100000
set_option maxHeartbeats 4000000


noncomputable def code6 : Code := match Try.f6.body with | some c => c | none => .skip
theorem a6_2042 : codeAt code6 2042 = some (.loop (loopBody (codeAt code6 2042))) := by kernel_rfl
theorem a6_16731349 : codeAt code6 16731349 = some (pieceOf (codeAt code6 16731349)) := by kernel_rfl
theorem a6_33462699 : codeAt code6 33462699 = some (pieceOf (codeAt code6 33462699)) := by kernel_rfl
noncomputable def F6_33462699 {R : Type} (fu : Nat) (id : Int) (now : Int) (e : Int) (want : List (List D)) (o_4 : Int) (o_5 : ByteArray) (o_6 : Int) (o_7 : Int) (o_8 : Int) (o_9 : Int) (o_10 : Int) (o_11 : ByteArray) (o_12 : Bool) (o_13 : ByteArray) (o_14 : ByteArray) (o_15 : ByteArray) (o_16 : ByteArray) (o_17 : List (List D)) (o_18 : Int) (o_19 : Int) (x3 : Int) (x4 : Int) (x5 : Int) (x6 : ByteArray) (x7 : Int) (x8 : Int) (x9 : Int) (x10 : Int) (x11 : Int) (x12 : ByteArray) (x13 : Bool) (x14 : ByteArray) (x15 : ByteArray) (x16 : ByteArray) (x17 : ByteArray) (x18 : List (List D)) (x19 : Int) (x20 : Int) (k0 : Option R) (k1 : (List (List D)) → Option R) : Option R :=
  bif decide (e = 0) then F27 fu [D.int x3, D.int x4, D.int x5, D.str x6, D.int x7, D.int x8, D.int x9, D.int x10, D.int x11, D.str x12, D.bool x13, D.str x14, D.str x15, D.str x16, D.str x17, D.row x18, D.int x19, D.int x20] fun o0 => F27 fu [D.int id, D.int (IntKind.i64.wrap (ofN want.length + 1)), D.int o_4, D.str o_5, D.int o_6, D.int o_7, D.int o_8, D.int o_9, D.int o_10, D.str o_11, D.bool o_12, D.str o_13, D.str o_14, D.str o_15, D.str o_16, D.row o_17, D.int o_18, D.int o_19] fun o1 => F26 fu [D.int (cell 0 o0).toInt, D.int (cell 1 o0).toInt, D.int (cell 2 o0).toInt, D.str (cell 3 o0).toStr, D.int (cell 4 o0).toInt, D.int (cell 5 o0).toInt, D.int (cell 6 o0).toInt, D.int (cell 7 o0).toInt, D.int (cell 8 o0).toInt, D.str (cell 9 o0).toStr, D.bool (cell 10 o0).toBool, D.str (cell 11 o0).toStr, D.str (cell 12 o0).toStr, D.str (cell 13 o0).toStr, D.str (cell 14 o0).toStr, D.row (cell 15 o0).toRows, D.int (cell 16 o0).toInt, D.int (cell 17 o0).toInt] [D.int (cell 0 o1).toInt, D.int (cell 1 o1).toInt, D.int (cell 2 o1).toInt, D.str (cell 3 o1).toStr, D.int (cell 4 o1).toInt, D.int (cell 5 o1).toInt, D.int (cell 6 o1).toInt, D.int (cell 7 o1).toInt, D.int (cell 8 o1).toInt, D.str (cell 9 o1).toStr, D.bool (cell 10 o1).toBool, D.str (cell 11 o1).toStr, D.str (cell 12 o1).toStr, D.str (cell 13 o1).toStr, D.str (cell 14 o1).toStr, D.row (cell 15 o1).toRows, D.int (cell 16 o1).toInt, D.int (cell 17 o1).toInt] fun o2 => bif !o2 then (k0) else bif fits (want.length + 1) 288 then (k1 (want ++ [[D.int id, D.int (IntKind.i64.wrap (ofN want.length + 1)), D.int o_4, D.str o_5, D.int o_6, D.int o_7, D.int o_8, D.int o_9, D.int o_10, D.str o_11, D.bool o_12, D.str o_13, D.str o_14, D.str o_15, D.str o_16, D.row o_17, D.int o_18, D.int o_19, D.int now, D.int 0, D.bool false, D.int 0, D.nil, D.nil]])) else none else (k1 want)

noncomputable def t6_33462699 (fu : Nat) : ToldP := fun _ e s K => match e, s with
  | [.int .i64 id, .int .i64 now, .ptr 0 0, .own 1, .ptr 2 0, .ptr 3 0, .int .i64 e, .fz zq0 x false, .int .i64 x1, .int .i64 x2], [.obj [.int .i64 c, .own 4, .bool c1], .row zq1 want, .obj (.int .i64 o_ :: .int .i64 o_1 :: .int .i64 o_2 :: .int .i64 o_3 :: .int .i64 o_4 :: .str o_5 :: .int .i64 o_6 :: .int .i64 o_7 :: .int .i64 o_8 :: .int .i64 o_9 :: .int .i64 o_10 :: .str o_11 :: .bool o_12 :: .str o_13 :: .str o_14 :: .str o_15 :: .str o_16 :: .fz zq2 o_17 false :: .int .i64 o_18 :: .int .i64 o_19 :: .int .i64 o_20 :: .fz zq3 o_21 false :: .fz zq4 o_22 false :: []), .obj (.int .i64 x3 :: .int .i64 x4 :: .int .i64 x5 :: .str x6 :: .int .i64 x7 :: .int .i64 x8 :: .int .i64 x9 :: .int .i64 x10 :: .int .i64 x11 :: .str x12 :: .bool x13 :: .str x14 :: .str x15 :: .str x16 :: .str x17 :: .fz zq5 x18 false :: .int .i64 x19 :: .int .i64 x20 :: []), .row zq6 y] => (match FT.sames zq0 ft9 with | true => (match FT.sames zq1 ft7 with | true => (match FT.sames zq2 ft2 with | true => (match FT.sames zq3 ft3 with | true => (match FT.sames zq4 ft4 with | true => (match FT.sames zq5 ft2 with | true => (match FT.sames zq6 ft7 with | true => F6_33462699 fu id now e want o_4 o_5 o_6 o_7 o_8 o_9 o_10 o_11 o_12 o_13 o_14 o_15 o_16 o_17 o_18 o_19 x3 x4 x5 x6 x7 x8 x9 x10 x11 x12 x13 x14 x15 x16 x17 x18 x19 x20 (K .ret (unpackM (bitsM 57 0x1c00000000001c3) [.int .i64 (id), .int .i64 (now), .bool (false), .ptr 0 0, .own 1, .fz ft9 (x) false, .int .i64 (x1), .int .i64 (x2)]) [.obj [.int .i64 (c), .own 2, .bool (c1)], .row ft7 (want), .row ft7 (y)]) (fun o_ => K .normal (unpackM (bitsM 57 0x1c0000000000383) [.int .i64 (id), .int .i64 (now), .ptr 0 0, .own 1, .bool (true), .fz ft9 (x) false, .int .i64 (x1), .int .i64 (x2)]) [.obj [.int .i64 (c), .own 2, .bool (c1)], .row ft7 o_, .row ft7 (y)]) | false => none) | false => none) | false => none) | false => none) | false => none) | false => none) | false => none)
  | _, _ => none

noncomputable def pc6_33462699 (fu : Nat) : Nat → Option ToldP := fun _ => none
theorem e6_33462699 (fu : Nat) (R : Type) (K : VExit → UEnv → USt → Option R) (id : Int) (now : Int) (e : Int) (x : List (List D)) (x1 : Int) (x2 : Int) (c : Int) (c1 : Bool) (want : List (List D)) (o_ : Int) (o_1 : Int) (o_2 : Int) (o_3 : Int) (o_4 : Int) (o_5 : ByteArray) (o_6 : Int) (o_7 : Int) (o_8 : Int) (o_9 : Int) (o_10 : Int) (o_11 : ByteArray) (o_12 : Bool) (o_13 : ByteArray) (o_14 : ByteArray) (o_15 : ByteArray) (o_16 : ByteArray) (o_17 : List (List D)) (o_18 : Int) (o_19 : Int) (o_20 : Int) (o_21 : List (List D)) (o_22 : List (List D)) (x3 : Int) (x4 : Int) (x5 : Int) (x6 : ByteArray) (x7 : Int) (x8 : Int) (x9 : Int) (x10 : Int) (x11 : Int) (x12 : ByteArray) (x13 : Bool) (x14 : ByteArray) (x15 : ByteArray) (x16 : ByteArray) (x17 : ByteArray) (x18 : List (List D)) (x19 : Int) (x20 : Int) (y : List (List D)) :
    F6_33462699 fu id now e want o_4 o_5 o_6 o_7 o_8 o_9 o_10 o_11 o_12 o_13 o_14 o_15 o_16 o_17 o_18 o_19 x3 x4 x5 x6 x7 x8 x9 x10 x11 x12 x13 x14 x15 x16 x17 x18 x19 x20 (K .ret (unpackM (bitsM 57 0x1c00000000001c3) [.int .i64 (id), .int .i64 (now), .bool (false), .ptr 0 0, .own 1, .fz ft9 (x) false, .int .i64 (x1), .int .i64 (x2)]) [.obj [.int .i64 (c), .own 2, .bool (c1)], .row ft7 (want), .row ft7 (y)]) (fun o_ => K .normal (unpackM (bitsM 57 0x1c0000000000383) [.int .i64 (id), .int .i64 (now), .ptr 0 0, .own 1, .bool (true), .fz ft9 (x) false, .int .i64 (x1), .int .i64 (x2)]) [.obj [.int .i64 (c), .own 2, .bool (c1)], .row ft7 o_, .row ft7 (y)]) = uexec Try.prog (tb5 fu) 300 (pc6_33462699 fu) 33462699 (pieceOf (codeAt code6 33462699)) (unpackM (bitsM 57 0x1c0000000003983) [.int .i64 id, .int .i64 now, .ptr 0 0, .own 1, .ptr 2 0, .ptr 3 0, .int .i64 e, .fz ft9 x false, .int .i64 x1, .int .i64 x2]) [.obj [.int .i64 c, .own 4, .bool c1], .row ft7 want, .obj (.int .i64 o_ :: .int .i64 o_1 :: .int .i64 o_2 :: .int .i64 o_3 :: .int .i64 o_4 :: .str o_5 :: .int .i64 o_6 :: .int .i64 o_7 :: .int .i64 o_8 :: .int .i64 o_9 :: .int .i64 o_10 :: .str o_11 :: .bool o_12 :: .str o_13 :: .str o_14 :: .str o_15 :: .str o_16 :: .fz ft2 o_17 false :: .int .i64 o_18 :: .int .i64 o_19 :: .int .i64 o_20 :: .fz ft3 o_21 false :: .fz ft4 o_22 false :: []), .obj (.int .i64 x3 :: .int .i64 x4 :: .int .i64 x5 :: .str x6 :: .int .i64 x7 :: .int .i64 x8 :: .int .i64 x9 :: .int .i64 x10 :: .int .i64 x11 :: .str x12 :: .bool x13 :: .str x14 :: .str x15 :: .str x16 :: .str x17 :: .fz ft2 x18 false :: .int .i64 x19 :: .int .i64 x20 :: []), .row ft7 y] (ghK 0 [.live (bitsM 57 0x1c00000000003c3), .gc] K) := by kernel_rfl

theorem p6_33462699 (fu : Nat) : SoundPc Try.prog 0 code6 (pc6_33462699 fu) := SoundPc.none _ _ _
theorem s6_33462699 (fu : Nat) : SoundP Try.prog 0 (pieceOf (codeAt code6 33462699)) (pkP (bitsM 57 0x1c0000000003983) (t6_33462699 fu)) := by
  refine pieceP_sound (gout := [.live (bitsM 57 0x1c00000000003c3), .gc]) (k := 300) (tb5_sound fu) (p6_33462699 fu) (by decide) a6_33462699 (fun R e s K r h => ?_)
  unfold t6_33462699 at h; split at h
  case h_2 => cases h
  split at h
  case h_2 => cases h
  rename_i hq
  have hq := FT.sames_eq _ _ hq
  subst hq
  split at h
  case h_2 => cases h
  rename_i hq
  have hq := FT.sames_eq _ _ hq
  subst hq
  split at h
  case h_2 => cases h
  rename_i hq
  have hq := FT.sames_eq _ _ hq
  subst hq
  split at h
  case h_2 => cases h
  rename_i hq
  have hq := FT.sames_eq _ _ hq
  subst hq
  split at h
  case h_2 => cases h
  rename_i hq
  have hq := FT.sames_eq _ _ hq
  subst hq
  split at h
  case h_2 => cases h
  rename_i hq
  have hq := FT.sames_eq _ _ hq
  subst hq
  split at h
  case h_2 => cases h
  rename_i hq
  have hq := FT.sames_eq _ _ hq
  subst hq
  exact (e6_33462699 fu R K _ _ _ _ _ _ _ _ _ _ _ _ _ _ _ _ _ _ _ _ _ _ _ _ _ _ _ _ _ _ _ _ _ _ _ _ _ _ _ _ _ _ _ _ _ _ _ _ _ _ _).symm.trans h

noncomputable def F6_16731349 {R : Type} (fu : Nat) (id : Int) (now : Int) (open_ : Bool) (e : Int) (want : List (List D)) (o_1 : Int) (o_4 : Int) (o_5 : ByteArray) (o_6 : Int) (o_7 : Int) (o_8 : Int) (o_9 : Int) (o_10 : Int) (o_11 : ByteArray) (o_12 : Bool) (o_13 : ByteArray) (o_14 : ByteArray) (o_15 : ByteArray) (o_16 : ByteArray) (o_17 : List (List D)) (o_18 : Int) (o_19 : Int) (x3 : Int) (x4 : Int) (x5 : Int) (x6 : ByteArray) (x7 : Int) (x8 : Int) (x9 : Int) (x10 : Int) (x11 : Int) (x12 : ByteArray) (x13 : Bool) (x14 : ByteArray) (x15 : ByteArray) (x16 : ByteArray) (x17 : ByteArray) (x18 : List (List D)) (x19 : Int) (x20 : Int) (k0 : Option R) (k1 : Option R) (k2 : (List (List D)) → Option R) : Option R :=
  bif decide (e = 0) == open_ then (k0) else bif !decide (e = 0) then bif !decide (e = 9) then (k0) else F6_33462699 fu id now e want o_4 o_5 o_6 o_7 o_8 o_9 o_10 o_11 o_12 o_13 o_14 o_15 o_16 o_17 o_18 o_19 x3 x4 x5 x6 x7 x8 x9 x10 x11 x12 x13 x14 x15 x16 x17 x18 x19 x20 ((k1)) fun o_0 => (k2 o_0) else F6_33462699 fu id now e want o_4 o_5 o_6 o_7 o_8 o_9 o_10 o_11 o_12 o_13 o_14 o_15 o_16 o_17 o_18 o_19 x3 x4 x5 x6 x7 x8 x9 x10 x11 x12 x13 x14 x15 x16 x17 x18 x19 x20 ((k1)) fun o_1 => (k2 o_1)

noncomputable def t6_16731349 (fu : Nat) : ToldP := fun _ e s K => match e, s with
  | [.int .i64 id, .int .i64 now, .ptr 0 0, .own 1, .bool open_, .ptr 2 0, .ptr 3 0, .int .i64 e, .fz zq0 x false, .int .i64 x1, .int .i64 x2], [.obj [.int .i64 c, .own 4, .bool c1], .row zq1 want, .obj (.int .i64 o_ :: .int .i64 o_1 :: .int .i64 o_2 :: .int .i64 o_3 :: .int .i64 o_4 :: .str o_5 :: .int .i64 o_6 :: .int .i64 o_7 :: .int .i64 o_8 :: .int .i64 o_9 :: .int .i64 o_10 :: .str o_11 :: .bool o_12 :: .str o_13 :: .str o_14 :: .str o_15 :: .str o_16 :: .fz zq2 o_17 false :: .int .i64 o_18 :: .int .i64 o_19 :: .int .i64 o_20 :: .fz zq3 o_21 false :: .fz zq4 o_22 false :: []), .obj (.int .i64 x3 :: .int .i64 x4 :: .int .i64 x5 :: .str x6 :: .int .i64 x7 :: .int .i64 x8 :: .int .i64 x9 :: .int .i64 x10 :: .int .i64 x11 :: .str x12 :: .bool x13 :: .str x14 :: .str x15 :: .str x16 :: .str x17 :: .fz zq5 x18 false :: .int .i64 x19 :: .int .i64 x20 :: []), .row zq6 y] => (match FT.sames zq0 ft9 with | true => (match FT.sames zq1 ft7 with | true => (match FT.sames zq2 ft2 with | true => (match FT.sames zq3 ft3 with | true => (match FT.sames zq4 ft4 with | true => (match FT.sames zq5 ft2 with | true => (match FT.sames zq6 ft7 with | true => F6_16731349 fu id now open_ e want o_1 o_4 o_5 o_6 o_7 o_8 o_9 o_10 o_11 o_12 o_13 o_14 o_15 o_16 o_17 o_18 o_19 x3 x4 x5 x6 x7 x8 x9 x10 x11 x12 x13 x14 x15 x16 x17 x18 x19 x20 (K .ret (unpackM (bitsM 57 0x1c00000000003c3) [.int .i64 (id), .int .i64 (now), .bool (false), .ptr 0 0, .own 1, .bool (open_), .fz ft9 (x) false, .int .i64 (x1), .int .i64 (x2)]) [.obj [.int .i64 (c), .own 2, .bool (c1)], .row ft7 (want), .row ft7 (y)]) (K .ret (unpackM (bitsM 57 0x1c00000000001c3) [.int .i64 (id), .int .i64 (now), .bool (false), .ptr 0 0, .own 1, .fz ft9 (x) false, .int .i64 (x1), .int .i64 (x2)]) [.obj [.int .i64 (c), .own 2, .bool (c1)], .row ft7 (want), .row ft7 (y)]) (fun o_ => K .normal (unpackM (bitsM 57 0x1c0000000000383) [.int .i64 (id), .int .i64 (now), .ptr 0 0, .own 1, .bool (true), .fz ft9 (x) false, .int .i64 (x1), .int .i64 (x2)]) [.obj [.int .i64 (c), .own 2, .bool (c1)], .row ft7 o_, .row ft7 (y)]) | false => none) | false => none) | false => none) | false => none) | false => none) | false => none) | false => none)
  | _, _ => none

noncomputable def pc6_16731349 (fu : Nat) : Nat → Option ToldP := fun p => match Nat.beq p 33462699 with | true => some (ghP 0 [.live (bitsM 57 0x1c0000000003983), .ownP 8 [] ft7, .fzP 54 [] ft9, .gc, .ownC 0 1 ft7, .fzC 2 17 ft2, .fzC 2 21 ft3, .fzC 2 22 ft4, .fzC 3 15 ft2, .gc] (pkP (bitsM 57 0x1c0000000003983) (t6_33462699 fu))) | false => none
theorem e6_16731349 (fu : Nat) (R : Type) (K : VExit → UEnv → USt → Option R) (id : Int) (now : Int) (open_ : Bool) (e : Int) (x : List (List D)) (x1 : Int) (x2 : Int) (c : Int) (c1 : Bool) (want : List (List D)) (o_ : Int) (o_1 : Int) (o_2 : Int) (o_3 : Int) (o_4 : Int) (o_5 : ByteArray) (o_6 : Int) (o_7 : Int) (o_8 : Int) (o_9 : Int) (o_10 : Int) (o_11 : ByteArray) (o_12 : Bool) (o_13 : ByteArray) (o_14 : ByteArray) (o_15 : ByteArray) (o_16 : ByteArray) (o_17 : List (List D)) (o_18 : Int) (o_19 : Int) (o_20 : Int) (o_21 : List (List D)) (o_22 : List (List D)) (x3 : Int) (x4 : Int) (x5 : Int) (x6 : ByteArray) (x7 : Int) (x8 : Int) (x9 : Int) (x10 : Int) (x11 : Int) (x12 : ByteArray) (x13 : Bool) (x14 : ByteArray) (x15 : ByteArray) (x16 : ByteArray) (x17 : ByteArray) (x18 : List (List D)) (x19 : Int) (x20 : Int) (y : List (List D)) :
    F6_16731349 fu id now open_ e want o_1 o_4 o_5 o_6 o_7 o_8 o_9 o_10 o_11 o_12 o_13 o_14 o_15 o_16 o_17 o_18 o_19 x3 x4 x5 x6 x7 x8 x9 x10 x11 x12 x13 x14 x15 x16 x17 x18 x19 x20 (K .ret (unpackM (bitsM 57 0x1c00000000003c3) [.int .i64 (id), .int .i64 (now), .bool (false), .ptr 0 0, .own 1, .bool (open_), .fz ft9 (x) false, .int .i64 (x1), .int .i64 (x2)]) [.obj [.int .i64 (c), .own 2, .bool (c1)], .row ft7 (want), .row ft7 (y)]) (K .ret (unpackM (bitsM 57 0x1c00000000001c3) [.int .i64 (id), .int .i64 (now), .bool (false), .ptr 0 0, .own 1, .fz ft9 (x) false, .int .i64 (x1), .int .i64 (x2)]) [.obj [.int .i64 (c), .own 2, .bool (c1)], .row ft7 (want), .row ft7 (y)]) (fun o_ => K .normal (unpackM (bitsM 57 0x1c0000000000383) [.int .i64 (id), .int .i64 (now), .ptr 0 0, .own 1, .bool (true), .fz ft9 (x) false, .int .i64 (x1), .int .i64 (x2)]) [.obj [.int .i64 (c), .own 2, .bool (c1)], .row ft7 o_, .row ft7 (y)]) = uexec Try.prog (tb5 fu) 300 (pc6_16731349 fu) 16731349 (pieceOf (codeAt code6 16731349)) (unpackM (bitsM 57 0x1c0000000003b83) [.int .i64 id, .int .i64 now, .ptr 0 0, .own 1, .bool open_, .ptr 2 0, .ptr 3 0, .int .i64 e, .fz ft9 x false, .int .i64 x1, .int .i64 x2]) [.obj [.int .i64 c, .own 4, .bool c1], .row ft7 want, .obj (.int .i64 o_ :: .int .i64 o_1 :: .int .i64 o_2 :: .int .i64 o_3 :: .int .i64 o_4 :: .str o_5 :: .int .i64 o_6 :: .int .i64 o_7 :: .int .i64 o_8 :: .int .i64 o_9 :: .int .i64 o_10 :: .str o_11 :: .bool o_12 :: .str o_13 :: .str o_14 :: .str o_15 :: .str o_16 :: .fz ft2 o_17 false :: .int .i64 o_18 :: .int .i64 o_19 :: .int .i64 o_20 :: .fz ft3 o_21 false :: .fz ft4 o_22 false :: []), .obj (.int .i64 x3 :: .int .i64 x4 :: .int .i64 x5 :: .str x6 :: .int .i64 x7 :: .int .i64 x8 :: .int .i64 x9 :: .int .i64 x10 :: .int .i64 x11 :: .str x12 :: .bool x13 :: .str x14 :: .str x15 :: .str x16 :: .str x17 :: .fz ft2 x18 false :: .int .i64 x19 :: .int .i64 x20 :: []), .row ft7 y] (ghK 0 [.live (bitsM 57 0x1c00000000003c3), .gc] K) := by kernel_rfl

theorem p6_16731349 (fu : Nat) : SoundPc Try.prog 0 code6 (pc6_16731349 fu) := fun p told h b hb => by
  replace h : pc6_16731349 fu p = some told := h
  unfold pc6_16731349 at h
  split at h
  · rename_i hp
    cases h
    have := Nat.eq_of_beq_eq_true hp
    subst this
    rw [a6_33462699] at hb
    cases hb
    exact ghP_sound (s6_33462699 fu)
  ·
    cases h

theorem s6_16731349 (fu : Nat) : SoundP Try.prog 0 (pieceOf (codeAt code6 16731349)) (pkP (bitsM 57 0x1c0000000003b83) (t6_16731349 fu)) := by
  refine pieceP_sound (gout := [.live (bitsM 57 0x1c00000000003c3), .gc]) (k := 300) (tb5_sound fu) (p6_16731349 fu) (by decide) a6_16731349 (fun R e s K r h => ?_)
  unfold t6_16731349 at h; split at h
  case h_2 => cases h
  split at h
  case h_2 => cases h
  rename_i hq
  have hq := FT.sames_eq _ _ hq
  subst hq
  split at h
  case h_2 => cases h
  rename_i hq
  have hq := FT.sames_eq _ _ hq
  subst hq
  split at h
  case h_2 => cases h
  rename_i hq
  have hq := FT.sames_eq _ _ hq
  subst hq
  split at h
  case h_2 => cases h
  rename_i hq
  have hq := FT.sames_eq _ _ hq
  subst hq
  split at h
  case h_2 => cases h
  rename_i hq
  have hq := FT.sames_eq _ _ hq
  subst hq
  split at h
  case h_2 => cases h
  rename_i hq
  have hq := FT.sames_eq _ _ hq
  subst hq
  split at h
  case h_2 => cases h
  rename_i hq
  have hq := FT.sames_eq _ _ hq
  subst hq
  exact (e6_16731349 fu R K _ _ _ _ _ _ _ _ _ _ _ _ _ _ _ _ _ _ _ _ _ _ _ _ _ _ _ _ _ _ _ _ _ _ _ _ _ _ _ _ _ _ _ _ _ _ _ _ _ _ _ _).symm.trans h

theorem a6_522855 : codeAt code6 522855 = some (pieceOf (codeAt code6 522855)) := by kernel_rfl
theorem a6_4182847 : codeAt code6 4182847 = some (pieceOf (codeAt code6 4182847)) := by kernel_rfl
theorem a6_16731390 : codeAt code6 16731390 = some (.loop (loopBody (codeAt code6 16731390))) := by kernel_rfl
noncomputable def F6_16731390 {R : Type} (fu : Nat) (x3 : Int) (want : List (List D)) (got : List (List D)) : Nat → Int → (Option R) → (Option R) → Option R
  | 0, _, _, _ => none
  | n + 1, x4, k0, k1 => bif decide (x4 < x3) then bif within x4 got.length then bif within x4 want.length then F21 fu [D.int (cell 0 (elem x4.toNat got)).toInt, D.int (cell 1 (elem x4.toNat got)).toInt, D.int (cell 2 (elem x4.toNat got)).toInt, D.str (cell 3 (elem x4.toNat got)).toStr, D.int (cell 4 (elem x4.toNat got)).toInt, D.int (cell 5 (elem x4.toNat got)).toInt, D.int (cell 6 (elem x4.toNat got)).toInt, D.int (cell 7 (elem x4.toNat got)).toInt, D.int (cell 8 (elem x4.toNat got)).toInt, D.str (cell 9 (elem x4.toNat got)).toStr, D.bool (cell 10 (elem x4.toNat got)).toBool, D.str (cell 11 (elem x4.toNat got)).toStr, D.str (cell 12 (elem x4.toNat got)).toStr, D.str (cell 13 (elem x4.toNat got)).toStr, D.str (cell 14 (elem x4.toNat got)).toStr, D.row (cell 15 (elem x4.toNat got)).toRows, D.int (cell 16 (elem x4.toNat got)).toInt, D.int (cell 17 (elem x4.toNat got)).toInt, D.int (cell 18 (elem x4.toNat got)).toInt, D.int (cell 19 (elem x4.toNat got)).toInt, D.bool (cell 20 (elem x4.toNat got)).toBool, D.int (cell 21 (elem x4.toNat got)).toInt, D.row (cell 22 (elem x4.toNat got)).toRows, D.row (cell 23 (elem x4.toNat got)).toRows] [D.int (cell 0 (elem x4.toNat want)).toInt, D.int (cell 1 (elem x4.toNat want)).toInt, D.int (cell 2 (elem x4.toNat want)).toInt, D.str (cell 3 (elem x4.toNat want)).toStr, D.int (cell 4 (elem x4.toNat want)).toInt, D.int (cell 5 (elem x4.toNat want)).toInt, D.int (cell 6 (elem x4.toNat want)).toInt, D.int (cell 7 (elem x4.toNat want)).toInt, D.int (cell 8 (elem x4.toNat want)).toInt, D.str (cell 9 (elem x4.toNat want)).toStr, D.bool (cell 10 (elem x4.toNat want)).toBool, D.str (cell 11 (elem x4.toNat want)).toStr, D.str (cell 12 (elem x4.toNat want)).toStr, D.str (cell 13 (elem x4.toNat want)).toStr, D.str (cell 14 (elem x4.toNat want)).toStr, D.row (cell 15 (elem x4.toNat want)).toRows, D.int (cell 16 (elem x4.toNat want)).toInt, D.int (cell 17 (elem x4.toNat want)).toInt, D.int (cell 18 (elem x4.toNat want)).toInt, D.int (cell 19 (elem x4.toNat want)).toInt, D.bool (cell 20 (elem x4.toNat want)).toBool, D.int (cell 21 (elem x4.toNat want)).toInt, D.row (cell 22 (elem x4.toNat want)).toRows, D.row (cell 23 (elem x4.toNat want)).toRows] fun o0 => bif !o0 then (k0) else (F6_16731390 fu x3 want got n (IntKind.i64.wrap (x4 + 1)) k0 k1) else none else none else (k1)

noncomputable def t6_16731390 (fu n : Nat) : ToldP := fun _ e s K => match e, s with
  | [.int .i64 id, .int .i64 now, .ptr 0 0, .own 1, .bool open_, .own 2, .fz zq0 x false, .int .i64 x1, .int .i64 x2, .int .i64 x3, .int .i64 x4], [.obj [.int .i64 c, .own 3, .bool c1], .row zq1 want, .row zq2 got, .row zq3 y] => (match FT.sames zq0 ft9 with | true => (match FT.sames zq1 ft7 with | true => (match FT.sames zq2 ft7 with | true => (match FT.sames zq3 ft7 with | true => F6_16731390 fu x3 want got n x4 (K .ret (unpackM (bitsM 57 0x1c00000000003c3) [.int .i64 (id), .int .i64 (now), .bool (false), .ptr 0 0, .own 1, .bool (open_), .fz ft9 (x) false, .int .i64 (x1), .int .i64 (x2)]) [.obj [.int .i64 (c), .own 2, .bool (c1)], .row ft7 (want), .row ft7 (y)]) (K (.exit 3) (unpackM (bitsM 57 0x1c0000000000383) [.int .i64 (id), .int .i64 (now), .ptr 0 0, .own 1, .bool (open_), .fz ft9 (x) false, .int .i64 (x1), .int .i64 (x2)]) [.obj [.int .i64 (c), .own 2, .bool (c1)], .row ft7 (want), .row ft7 (y)]) | false => none) | false => none) | false => none) | false => none)
  | _, _ => none

noncomputable def pc6_16731390 (fu : Nat) : Nat → Option ToldP := fun _ => none
theorem e6_16731390 (fu n : Nat) (R : Type) (K : VExit → UEnv → USt → Option R) (id : Int) (now : Int) (open_ : Bool) (x : List (List D)) (x1 : Int) (x2 : Int) (x3 : Int) (x4 : Int) (c : Int) (c1 : Bool) (want : List (List D)) (got : List (List D)) (y : List (List D)) :
    F6_16731390 fu x3 want got (n + 1) x4 (K .ret (unpackM (bitsM 57 0x1c00000000003c3) [.int .i64 (id), .int .i64 (now), .bool (false), .ptr 0 0, .own 1, .bool (open_), .fz ft9 (x) false, .int .i64 (x1), .int .i64 (x2)]) [.obj [.int .i64 (c), .own 2, .bool (c1)], .row ft7 (want), .row ft7 (y)]) (K (.exit 3) (unpackM (bitsM 57 0x1c0000000000383) [.int .i64 (id), .int .i64 (now), .ptr 0 0, .own 1, .bool (open_), .fz ft9 (x) false, .int .i64 (x1), .int .i64 (x2)]) [.obj [.int .i64 (c), .own 2, .bool (c1)], .row ft7 (want), .row ft7 (y)]) = uexec Try.prog (tb5 fu) 300 (pc6_16731390 fu) 33462780 (loopBody (codeAt code6 16731390)) (unpackM (bitsM 189 0x1800000000000000000000000000000001c0000000020383) [.int .i64 id, .int .i64 now, .ptr 0 0, .own 1, .bool open_, .own 2, .fz ft9 x false, .int .i64 x1, .int .i64 x2, .int .i64 x3, .int .i64 x4]) [.obj [.int .i64 c, .own 3, .bool c1], .row ft7 want, .row ft7 got, .row ft7 y] (loopK 0 [.live (bitsM 189 0x1800000000000000000000000000000001c0000000020383), .ownP 8 [] ft7, .ownP 17 [] ft7, .fzP 54 [] ft9, .gc, .ownC 0 1 ft7, .gc] [.live (bitsM 57 0x1c00000000003c3), .gc] (pkP (bitsM 189 0x1800000000000000000000000000000001c0000000020383) (t6_16731390 fu n)) K) := by kernel_rfl

theorem p6_16731390 (fu : Nat) : SoundPc Try.prog 0 code6 (pc6_16731390 fu) := SoundPc.none _ _ _
theorem s6_16731390 (fu : Nat) : ∀ n, SoundP Try.prog 0 (.loop (loopBody (codeAt code6 16731390))) (pkP (bitsM 189 0x1800000000000000000000000000000001c0000000020383) (t6_16731390 fu n)) := by
  refine loopP_sound (gin := [.live (bitsM 189 0x1800000000000000000000000000000001c0000000020383), .ownP 8 [] ft7, .ownP 17 [] ft7, .fzP 54 [] ft9, .gc, .ownC 0 1 ft7, .gc]) (gout := [.live (bitsM 57 0x1c00000000003c3), .gc]) (k := 300) (tb5_sound fu) (p6_16731390 fu) (by decide) a6_16731390 (fun R e s K => ?_) (fun n R e s K r h => ?_)
  · unfold t6_16731390; repeat' split
    all_goals rfl
  · unfold t6_16731390 at h; split at h
    case h_2 => cases h
    split at h
    case h_2 => cases h
    rename_i hq
    have hq := FT.sames_eq _ _ hq
    subst hq
    split at h
    case h_2 => cases h
    rename_i hq
    have hq := FT.sames_eq _ _ hq
    subst hq
    split at h
    case h_2 => cases h
    rename_i hq
    have hq := FT.sames_eq _ _ hq
    subst hq
    split at h
    case h_2 => cases h
    rename_i hq
    have hq := FT.sames_eq _ _ hq
    subst hq
    exact (e6_16731390 fu n R K _ _ _ _ _ _ _ _ _ _ _ _ _).symm.trans h

noncomputable def F6_4182847 {R : Type} (fu : Nat) (want : List (List D)) (got : List (List D)) (k0 : Option R) (k1 : Option R) : Option R :=
  F6_16731390 fu (ofN want.length) want got fu 0 ((k0)) ((k1))

noncomputable def t6_4182847 (fu : Nat) : ToldP := fun _ e s K => match e, s with
  | [.int .i64 id, .int .i64 now, .ptr 0 0, .own 1, .bool open_, .own 2, .fz zq0 x false, .int .i64 x1, .int .i64 x2], [.obj [.int .i64 c, .own 3, .bool c1], .row zq1 want, .row zq2 got, .row zq3 y] => (match FT.sames zq0 ft9 with | true => (match FT.sames zq1 ft7 with | true => (match FT.sames zq2 ft7 with | true => (match FT.sames zq3 ft7 with | true => F6_4182847 fu want got (K .ret (unpackM (bitsM 57 0x1c00000000003c3) [.int .i64 (id), .int .i64 (now), .bool (false), .ptr 0 0, .own 1, .bool (open_), .fz ft9 (x) false, .int .i64 (x1), .int .i64 (x2)]) [.obj [.int .i64 (c), .own 2, .bool (c1)], .row ft7 (want), .row ft7 (y)]) (K .normal (unpackM (bitsM 57 0x1c0000000000383) [.int .i64 (id), .int .i64 (now), .ptr 0 0, .own 1, .bool (open_), .fz ft9 (x) false, .int .i64 (x1), .int .i64 (x2)]) [.obj [.int .i64 (c), .own 2, .bool (c1)], .row ft7 (want), .row ft7 (y)]) | false => none) | false => none) | false => none) | false => none)
  | _, _ => none

noncomputable def pc6_4182847 (fu : Nat) : Nat → Option ToldP := fun p => match Nat.beq p 16731390 with | true => some (ghP 0 [.live (bitsM 189 0x1800000000000000000000000000000001c0000000020383), .ownP 8 [] ft7, .ownP 17 [] ft7, .fzP 54 [] ft9, .gc, .ownC 0 1 ft7, .gc] (pkP (bitsM 189 0x1800000000000000000000000000000001c0000000020383) (t6_16731390 fu fu))) | false => none
theorem e6_4182847 (fu : Nat) (R : Type) (K : VExit → UEnv → USt → Option R) (id : Int) (now : Int) (open_ : Bool) (x : List (List D)) (x1 : Int) (x2 : Int) (c : Int) (c1 : Bool) (want : List (List D)) (got : List (List D)) (y : List (List D)) :
    F6_4182847 fu want got (K .ret (unpackM (bitsM 57 0x1c00000000003c3) [.int .i64 (id), .int .i64 (now), .bool (false), .ptr 0 0, .own 1, .bool (open_), .fz ft9 (x) false, .int .i64 (x1), .int .i64 (x2)]) [.obj [.int .i64 (c), .own 2, .bool (c1)], .row ft7 (want), .row ft7 (y)]) (K .normal (unpackM (bitsM 57 0x1c0000000000383) [.int .i64 (id), .int .i64 (now), .ptr 0 0, .own 1, .bool (open_), .fz ft9 (x) false, .int .i64 (x1), .int .i64 (x2)]) [.obj [.int .i64 (c), .own 2, .bool (c1)], .row ft7 (want), .row ft7 (y)]) = uexec Try.prog (tb5 fu) 300 (pc6_4182847 fu) 4182847 (pieceOf (codeAt code6 4182847)) (unpackM (bitsM 57 0x1c0000000020383) [.int .i64 id, .int .i64 now, .ptr 0 0, .own 1, .bool open_, .own 2, .fz ft9 x false, .int .i64 x1, .int .i64 x2]) [.obj [.int .i64 c, .own 3, .bool c1], .row ft7 want, .row ft7 got, .row ft7 y] (ghK 0 [.live (bitsM 57 0x1c00000000003c3), .gc] K) := by kernel_rfl

theorem p6_4182847 (fu : Nat) : SoundPc Try.prog 0 code6 (pc6_4182847 fu) := fun p told h b hb => by
  replace h : pc6_4182847 fu p = some told := h
  unfold pc6_4182847 at h
  split at h
  · rename_i hp
    cases h
    have := Nat.eq_of_beq_eq_true hp
    subst this
    rw [a6_16731390] at hb
    cases hb
    exact ghP_sound (s6_16731390 fu _)
  ·
    cases h

theorem s6_4182847 (fu : Nat) : SoundP Try.prog 0 (pieceOf (codeAt code6 4182847)) (pkP (bitsM 57 0x1c0000000020383) (t6_4182847 fu)) := by
  refine pieceP_sound (gout := [.live (bitsM 57 0x1c00000000003c3), .gc]) (k := 300) (tb5_sound fu) (p6_4182847 fu) (by decide) a6_4182847 (fun R e s K r h => ?_)
  unfold t6_4182847 at h; split at h
  case h_2 => cases h
  split at h
  case h_2 => cases h
  rename_i hq
  have hq := FT.sames_eq _ _ hq
  subst hq
  split at h
  case h_2 => cases h
  rename_i hq
  have hq := FT.sames_eq _ _ hq
  subst hq
  split at h
  case h_2 => cases h
  rename_i hq
  have hq := FT.sames_eq _ _ hq
  subst hq
  split at h
  case h_2 => cases h
  rename_i hq
  have hq := FT.sames_eq _ _ hq
  subst hq
  exact (e6_4182847 fu R K _ _ _ _ _ _ _ _ _ _ _).symm.trans h

noncomputable def F6_522855 {R : Type} (fu : Nat) (open_ : Bool) (c : Int) (c1 : Bool) (want : List (List D)) (y : List (List D)) (k0 : Option R) (k1 : Option R) : Option R :=
  F20 fu c y c1 fun o0 => F25 fu c y c1 fun o1 o2 => bif !o2 == open_ then (k0) else bif o2 then F27 fu [D.int (cell 0 o1).toInt, D.int (cell 1 o1).toInt, D.int (cell 2 o1).toInt, D.str (cell 3 o1).toStr, D.int (cell 4 o1).toInt, D.int (cell 5 o1).toInt, D.int (cell 6 o1).toInt, D.int (cell 7 o1).toInt, D.int (cell 8 o1).toInt, D.str (cell 9 o1).toStr, D.bool (cell 10 o1).toBool, D.str (cell 11 o1).toStr, D.str (cell 12 o1).toStr, D.str (cell 13 o1).toStr, D.str (cell 14 o1).toStr, D.row (cell 15 o1).toRows, D.int (cell 16 o1).toInt, D.int (cell 17 o1).toInt] fun o3 => bif within (IntKind.i64.wrap (ofN want.length - 1)) want.length then F27 fu [D.int (cell 0 (elem (IntKind.i64.wrap (ofN want.length - 1)).toNat want)).toInt, D.int (cell 1 (elem (IntKind.i64.wrap (ofN want.length - 1)).toNat want)).toInt, D.int (cell 2 (elem (IntKind.i64.wrap (ofN want.length - 1)).toNat want)).toInt, D.str (cell 3 (elem (IntKind.i64.wrap (ofN want.length - 1)).toNat want)).toStr, D.int (cell 4 (elem (IntKind.i64.wrap (ofN want.length - 1)).toNat want)).toInt, D.int (cell 5 (elem (IntKind.i64.wrap (ofN want.length - 1)).toNat want)).toInt, D.int (cell 6 (elem (IntKind.i64.wrap (ofN want.length - 1)).toNat want)).toInt, D.int (cell 7 (elem (IntKind.i64.wrap (ofN want.length - 1)).toNat want)).toInt, D.int (cell 8 (elem (IntKind.i64.wrap (ofN want.length - 1)).toNat want)).toInt, D.str (cell 9 (elem (IntKind.i64.wrap (ofN want.length - 1)).toNat want)).toStr, D.bool (cell 10 (elem (IntKind.i64.wrap (ofN want.length - 1)).toNat want)).toBool, D.str (cell 11 (elem (IntKind.i64.wrap (ofN want.length - 1)).toNat want)).toStr, D.str (cell 12 (elem (IntKind.i64.wrap (ofN want.length - 1)).toNat want)).toStr, D.str (cell 13 (elem (IntKind.i64.wrap (ofN want.length - 1)).toNat want)).toStr, D.str (cell 14 (elem (IntKind.i64.wrap (ofN want.length - 1)).toNat want)).toStr, D.row (cell 15 (elem (IntKind.i64.wrap (ofN want.length - 1)).toNat want)).toRows, D.int (cell 16 (elem (IntKind.i64.wrap (ofN want.length - 1)).toNat want)).toInt, D.int (cell 17 (elem (IntKind.i64.wrap (ofN want.length - 1)).toNat want)).toInt] fun o4 => F26 fu [D.int (cell 0 o3).toInt, D.int (cell 1 o3).toInt, D.int (cell 2 o3).toInt, D.str (cell 3 o3).toStr, D.int (cell 4 o3).toInt, D.int (cell 5 o3).toInt, D.int (cell 6 o3).toInt, D.int (cell 7 o3).toInt, D.int (cell 8 o3).toInt, D.str (cell 9 o3).toStr, D.bool (cell 10 o3).toBool, D.str (cell 11 o3).toStr, D.str (cell 12 o3).toStr, D.str (cell 13 o3).toStr, D.str (cell 14 o3).toStr, D.row (cell 15 o3).toRows, D.int (cell 16 o3).toInt, D.int (cell 17 o3).toInt] [D.int (cell 0 o4).toInt, D.int (cell 1 o4).toInt, D.int (cell 2 o4).toInt, D.str (cell 3 o4).toStr, D.int (cell 4 o4).toInt, D.int (cell 5 o4).toInt, D.int (cell 6 o4).toInt, D.int (cell 7 o4).toInt, D.int (cell 8 o4).toInt, D.str (cell 9 o4).toStr, D.bool (cell 10 o4).toBool, D.str (cell 11 o4).toStr, D.str (cell 12 o4).toStr, D.str (cell 13 o4).toStr, D.str (cell 14 o4).toStr, D.row (cell 15 o4).toRows, D.int (cell 16 o4).toInt, D.int (cell 17 o4).toInt] fun o5 => bif !o5 then (k0) else bif !decide (ofN o0.length = ofN want.length) then (k0) else F6_4182847 fu want o0 ((k0)) ((k1)) else none else bif !decide (ofN o0.length = ofN want.length) then (k0) else F6_4182847 fu want o0 ((k0)) ((k1))

noncomputable def t6_522855 (fu : Nat) : ToldP := fun _ e s K => match e, s with
  | [.int .i64 id, .int .i64 now, .ptr 0 0, .own 1, .bool open_, .fz zq0 x false, .int .i64 x1, .int .i64 x2], [.obj [.int .i64 c, .own 2, .bool c1], .row zq1 want, .row zq2 y] => (match FT.sames zq0 ft9 with | true => (match FT.sames zq1 ft7 with | true => (match FT.sames zq2 ft7 with | true => F6_522855 fu open_ c c1 want y (K .ret (unpackM (bitsM 57 0x1c00000000003c3) [.int .i64 (id), .int .i64 (now), .bool (false), .ptr 0 0, .own 1, .bool (open_), .fz ft9 (x) false, .int .i64 (x1), .int .i64 (x2)]) [.obj [.int .i64 (c), .own 2, .bool (c1)], .row ft7 (want), .row ft7 (y)]) (K .normal (unpackM (bitsM 57 0x1c0000000000383) [.int .i64 (id), .int .i64 (now), .ptr 0 0, .own 1, .bool (open_), .fz ft9 (x) false, .int .i64 (x1), .int .i64 (x2)]) [.obj [.int .i64 (c), .own 2, .bool (c1)], .row ft7 (want), .row ft7 (y)]) | false => none) | false => none) | false => none)
  | _, _ => none

noncomputable def pc6_522855 (fu : Nat) : Nat → Option ToldP := fun p => match Nat.beq p 4182847 with | true => some (ghP 0 [.live (bitsM 57 0x1c0000000020383), .ownP 8 [] ft7, .ownP 17 [] ft7, .fzP 54 [] ft9, .gc, .ownC 0 1 ft7, .gc] (pkP (bitsM 57 0x1c0000000020383) (t6_4182847 fu))) | false => none
theorem e6_522855 (fu : Nat) (R : Type) (K : VExit → UEnv → USt → Option R) (id : Int) (now : Int) (open_ : Bool) (x : List (List D)) (x1 : Int) (x2 : Int) (c : Int) (c1 : Bool) (want : List (List D)) (y : List (List D)) :
    F6_522855 fu open_ c c1 want y (K .ret (unpackM (bitsM 57 0x1c00000000003c3) [.int .i64 (id), .int .i64 (now), .bool (false), .ptr 0 0, .own 1, .bool (open_), .fz ft9 (x) false, .int .i64 (x1), .int .i64 (x2)]) [.obj [.int .i64 (c), .own 2, .bool (c1)], .row ft7 (want), .row ft7 (y)]) (K .normal (unpackM (bitsM 57 0x1c0000000000383) [.int .i64 (id), .int .i64 (now), .ptr 0 0, .own 1, .bool (open_), .fz ft9 (x) false, .int .i64 (x1), .int .i64 (x2)]) [.obj [.int .i64 (c), .own 2, .bool (c1)], .row ft7 (want), .row ft7 (y)]) = uexec Try.prog (tb5 fu) 300 (pc6_522855 fu) 522855 (pieceOf (codeAt code6 522855)) (unpackM (bitsM 57 0x1c0000000000383) [.int .i64 id, .int .i64 now, .ptr 0 0, .own 1, .bool open_, .fz ft9 x false, .int .i64 x1, .int .i64 x2]) [.obj [.int .i64 c, .own 2, .bool c1], .row ft7 want, .row ft7 y] (ghK 0 [.live (bitsM 57 0x1c00000000003c3), .gc] K) := by kernel_rfl

theorem p6_522855 (fu : Nat) : SoundPc Try.prog 0 code6 (pc6_522855 fu) := fun p told h b hb => by
  replace h : pc6_522855 fu p = some told := h
  unfold pc6_522855 at h
  split at h
  · rename_i hp
    cases h
    have := Nat.eq_of_beq_eq_true hp
    subst this
    rw [a6_4182847] at hb
    cases hb
    exact ghP_sound (s6_4182847 fu)
  ·
    cases h

theorem s6_522855 (fu : Nat) : SoundP Try.prog 0 (pieceOf (codeAt code6 522855)) (pkP (bitsM 57 0x1c0000000000383) (t6_522855 fu)) := by
  refine pieceP_sound (gout := [.live (bitsM 57 0x1c00000000003c3), .gc]) (k := 300) (tb5_sound fu) (p6_522855 fu) (by decide) a6_522855 (fun R e s K r h => ?_)
  unfold t6_522855 at h; split at h
  case h_2 => cases h
  split at h
  case h_2 => cases h
  rename_i hq
  have hq := FT.sames_eq _ _ hq
  subst hq
  split at h
  case h_2 => cases h
  rename_i hq
  have hq := FT.sames_eq _ _ hq
  subst hq
  split at h
  case h_2 => cases h
  rename_i hq
  have hq := FT.sames_eq _ _ hq
  subst hq
  exact (e6_522855 fu R K _ _ _ _ _ _ _ _ _ _).symm.trans h

theorem a6_66925405 : codeAt code6 66925405 = some (pieceOf (codeAt code6 66925405)) := by kernel_rfl
noncomputable def F6_66925405 {R : Type} (fu : Nat) (now : Int) (open_ : Bool) (is_ : Bool) (c : Int) (c1 : Bool) (want : List (List D)) (o_1 : Int) (o_20 : Int) (o_21 : List (List D)) (o_22 : List (List D)) (y : List (List D)) (k0 : Bool → (List (List D)) → Option R) (k1 : Bool → Bool → (List (List D)) → (List (List D)) → Option R) : Option R :=
  F19 fu now o_1 [D.int o_20, D.row o_21, D.row o_22] c y c1 fun o0 o1 o2 => bif !o0 == is_ then (k0 o1 o2) else bif is_ then bif within (IntKind.i64.wrap (ofN want.length - 1)) want.length then bif within (IntKind.i64.wrap (ofN want.length - 1)) want.length then bif within (IntKind.i64.wrap (ofN want.length - 1)) want.length then (k1 false o1 (putAt want (IntKind.i64.wrap (ofN want.length - 1)).toNat 0 [D.int (cell 0 (elem (IntKind.i64.wrap (ofN want.length - 1)).toNat want)).toInt, D.int (cell 1 (elem (IntKind.i64.wrap (ofN want.length - 1)).toNat want)).toInt, D.int (cell 2 (elem (IntKind.i64.wrap (ofN want.length - 1)).toNat want)).toInt, D.str (cell 3 (elem (IntKind.i64.wrap (ofN want.length - 1)).toNat want)).toStr, D.int (cell 4 (elem (IntKind.i64.wrap (ofN want.length - 1)).toNat want)).toInt, D.int (cell 5 (elem (IntKind.i64.wrap (ofN want.length - 1)).toNat want)).toInt, D.int (cell 6 (elem (IntKind.i64.wrap (ofN want.length - 1)).toNat want)).toInt, D.int (cell 7 (elem (IntKind.i64.wrap (ofN want.length - 1)).toNat want)).toInt, D.int (cell 8 (elem (IntKind.i64.wrap (ofN want.length - 1)).toNat want)).toInt, D.str (cell 9 (elem (IntKind.i64.wrap (ofN want.length - 1)).toNat want)).toStr, D.bool (cell 10 (elem (IntKind.i64.wrap (ofN want.length - 1)).toNat want)).toBool, D.str (cell 11 (elem (IntKind.i64.wrap (ofN want.length - 1)).toNat want)).toStr, D.str (cell 12 (elem (IntKind.i64.wrap (ofN want.length - 1)).toNat want)).toStr, D.str (cell 13 (elem (IntKind.i64.wrap (ofN want.length - 1)).toNat want)).toStr, D.str (cell 14 (elem (IntKind.i64.wrap (ofN want.length - 1)).toNat want)).toStr, D.row (cell 15 (elem (IntKind.i64.wrap (ofN want.length - 1)).toNat want)).toRows, D.int (cell 16 (elem (IntKind.i64.wrap (ofN want.length - 1)).toNat want)).toInt, D.int (cell 17 (elem (IntKind.i64.wrap (ofN want.length - 1)).toNat want)).toInt, D.int (cell 18 (elem (IntKind.i64.wrap (ofN want.length - 1)).toNat want)).toInt, D.int now, D.bool true, D.int o_20, D.row o_21, D.row o_22]) o2) else none else none else none else (k1 open_ o1 want o2)

noncomputable def t6_66925405 (fu : Nat) : ToldP := fun _ e s K => match e, s with
  | [.int .i64 id, .int .i64 now, .ptr 0 0, .own 1, .bool open_, .ptr 2 0, .bool is_, .fz zq0 x false, .int .i64 x1, .int .i64 x2], [.obj [.int .i64 c, .own 3, .bool c1], .row zq1 want, .obj (.int .i64 o_ :: .int .i64 o_1 :: .int .i64 o_2 :: .int .i64 o_3 :: .int .i64 o_4 :: .str o_5 :: .int .i64 o_6 :: .int .i64 o_7 :: .int .i64 o_8 :: .int .i64 o_9 :: .int .i64 o_10 :: .str o_11 :: .bool o_12 :: .str o_13 :: .str o_14 :: .str o_15 :: .str o_16 :: .fz zq2 o_17 false :: .int .i64 o_18 :: .int .i64 o_19 :: .int .i64 o_20 :: .fz zq3 o_21 false :: .fz zq4 o_22 false :: []), .row zq5 y] => (match FT.sames zq0 ft9 with | true => (match FT.sames zq1 ft7 with | true => (match FT.sames zq2 ft2 with | true => (match FT.sames zq3 ft3 with | true => (match FT.sames zq4 ft4 with | true => (match FT.sames zq5 ft7 with | true => F6_66925405 fu now open_ is_ c c1 want o_1 o_20 o_21 o_22 y (fun o_ o_1 => K .ret (unpackM (bitsM 57 0x1c00000000003c3) [.int .i64 (id), .int .i64 (now), .bool (false), .ptr 0 0, .own 1, .bool (open_), .fz ft9 (x) false, .int .i64 (x1), .int .i64 (x2)]) [.obj [.int .i64 (c), .own 2, .bool o_], .row ft7 (want), .row ft7 o_1]) (fun o_ o_1 o_2 o_3 => K .normal (unpackM (bitsM 57 0x1c0000000000383) [.int .i64 (id), .int .i64 (now), .ptr 0 0, .own 1, .bool o_, .fz ft9 (x) false, .int .i64 (x1), .int .i64 (x2)]) [.obj [.int .i64 (c), .own 2, .bool o_1], .row ft7 o_2, .row ft7 o_3]) | false => none) | false => none) | false => none) | false => none) | false => none) | false => none)
  | _, _ => none

noncomputable def pc6_66925405 (fu : Nat) : Nat → Option ToldP := fun _ => none
theorem e6_66925405 (fu : Nat) (R : Type) (K : VExit → UEnv → USt → Option R) (id : Int) (now : Int) (open_ : Bool) (is_ : Bool) (x : List (List D)) (x1 : Int) (x2 : Int) (c : Int) (c1 : Bool) (want : List (List D)) (o_ : Int) (o_1 : Int) (o_2 : Int) (o_3 : Int) (o_4 : Int) (o_5 : ByteArray) (o_6 : Int) (o_7 : Int) (o_8 : Int) (o_9 : Int) (o_10 : Int) (o_11 : ByteArray) (o_12 : Bool) (o_13 : ByteArray) (o_14 : ByteArray) (o_15 : ByteArray) (o_16 : ByteArray) (o_17 : List (List D)) (o_18 : Int) (o_19 : Int) (o_20 : Int) (o_21 : List (List D)) (o_22 : List (List D)) (y : List (List D)) :
    F6_66925405 fu now open_ is_ c c1 want o_1 o_20 o_21 o_22 y (fun o_ o_1 => K .ret (unpackM (bitsM 57 0x1c00000000003c3) [.int .i64 (id), .int .i64 (now), .bool (false), .ptr 0 0, .own 1, .bool (open_), .fz ft9 (x) false, .int .i64 (x1), .int .i64 (x2)]) [.obj [.int .i64 (c), .own 2, .bool o_], .row ft7 (want), .row ft7 o_1]) (fun o_ o_1 o_2 o_3 => K .normal (unpackM (bitsM 57 0x1c0000000000383) [.int .i64 (id), .int .i64 (now), .ptr 0 0, .own 1, .bool o_, .fz ft9 (x) false, .int .i64 (x1), .int .i64 (x2)]) [.obj [.int .i64 (c), .own 2, .bool o_1], .row ft7 o_2, .row ft7 o_3]) = uexec Try.prog (tb5 fu) 300 (pc6_66925405 fu) 66925405 (pieceOf (codeAt code6 66925405)) (unpackM (bitsM 57 0x1c0000000008b83) [.int .i64 id, .int .i64 now, .ptr 0 0, .own 1, .bool open_, .ptr 2 0, .bool is_, .fz ft9 x false, .int .i64 x1, .int .i64 x2]) [.obj [.int .i64 c, .own 3, .bool c1], .row ft7 want, .obj (.int .i64 o_ :: .int .i64 o_1 :: .int .i64 o_2 :: .int .i64 o_3 :: .int .i64 o_4 :: .str o_5 :: .int .i64 o_6 :: .int .i64 o_7 :: .int .i64 o_8 :: .int .i64 o_9 :: .int .i64 o_10 :: .str o_11 :: .bool o_12 :: .str o_13 :: .str o_14 :: .str o_15 :: .str o_16 :: .fz ft2 o_17 false :: .int .i64 o_18 :: .int .i64 o_19 :: .int .i64 o_20 :: .fz ft3 o_21 false :: .fz ft4 o_22 false :: []), .row ft7 y] (ghK 0 [.live (bitsM 57 0x1c00000000003c3), .gc] K) := by kernel_rfl

theorem p6_66925405 (fu : Nat) : SoundPc Try.prog 0 code6 (pc6_66925405 fu) := SoundPc.none _ _ _
theorem s6_66925405 (fu : Nat) : SoundP Try.prog 0 (pieceOf (codeAt code6 66925405)) (pkP (bitsM 57 0x1c0000000008b83) (t6_66925405 fu)) := by
  refine pieceP_sound (gout := [.live (bitsM 57 0x1c00000000003c3), .gc]) (k := 300) (tb5_sound fu) (p6_66925405 fu) (by decide) a6_66925405 (fun R e s K r h => ?_)
  unfold t6_66925405 at h; split at h
  case h_2 => cases h
  split at h
  case h_2 => cases h
  rename_i hq
  have hq := FT.sames_eq _ _ hq
  subst hq
  split at h
  case h_2 => cases h
  rename_i hq
  have hq := FT.sames_eq _ _ hq
  subst hq
  split at h
  case h_2 => cases h
  rename_i hq
  have hq := FT.sames_eq _ _ hq
  subst hq
  split at h
  case h_2 => cases h
  rename_i hq
  have hq := FT.sames_eq _ _ hq
  subst hq
  split at h
  case h_2 => cases h
  rename_i hq
  have hq := FT.sames_eq _ _ hq
  subst hq
  split at h
  case h_2 => cases h
  rename_i hq
  have hq := FT.sames_eq _ _ hq
  subst hq
  exact (e6_66925405 fu R K _ _ _ _ _ _ _ _ _ _ _ _ _ _ _ _ _ _ _ _ _ _ _ _ _ _ _ _ _ _ _ _ _ _).symm.trans h

noncomputable def F6_2042 {R : Type} (fu : Nat) (id : Int) (x : List (List D)) (x1 : Int) (c : Int) : Nat → Int → Bool → Int → Bool → (List (List D)) → (List (List D)) → (Option R) → (Option R) → Option R
  | 0, _, _, _, _, _, _, _, _ => none
  | n + 1, now, open_, x2, c1, want, y, k0, k1 => bif decide (x2 < x1) then bif within x2 x.length then bif decide ((cell 0 (elem x2.toNat x)).toInt = 0) then F18 fu (IntKind.i64.wrap (now + 1)) [D.int (cell 2 (elem x2.toNat x)).toInt, D.int (cell 3 (elem x2.toNat x)).toInt, D.int (cell 4 (elem x2.toNat x)).toInt, D.str (cell 5 (elem x2.toNat x)).toStr, D.int (cell 6 (elem x2.toNat x)).toInt, D.int (cell 7 (elem x2.toNat x)).toInt, D.int (cell 8 (elem x2.toNat x)).toInt, D.int (cell 9 (elem x2.toNat x)).toInt, D.int (cell 10 (elem x2.toNat x)).toInt, D.str (cell 11 (elem x2.toNat x)).toStr, D.bool (cell 12 (elem x2.toNat x)).toBool, D.str (cell 13 (elem x2.toNat x)).toStr, D.str (cell 14 (elem x2.toNat x)).toStr, D.str (cell 15 (elem x2.toNat x)).toStr, D.str (cell 16 (elem x2.toNat x)).toStr, D.row (cell 17 (elem x2.toNat x)).toRows, D.int (cell 18 (elem x2.toNat x)).toInt, D.int (cell 19 (elem x2.toNat x)).toInt] c y c1 (F6_16731349 fu id (IntKind.i64.wrap (now + 1)) open_ 9 want (cell 1 (elem x2.toNat x)).toInt (cell 4 (elem x2.toNat x)).toInt (cell 5 (elem x2.toNat x)).toStr (cell 6 (elem x2.toNat x)).toInt (cell 7 (elem x2.toNat x)).toInt (cell 8 (elem x2.toNat x)).toInt (cell 9 (elem x2.toNat x)).toInt (cell 10 (elem x2.toNat x)).toInt (cell 11 (elem x2.toNat x)).toStr (cell 12 (elem x2.toNat x)).toBool (cell 13 (elem x2.toNat x)).toStr (cell 14 (elem x2.toNat x)).toStr (cell 15 (elem x2.toNat x)).toStr (cell 16 (elem x2.toNat x)).toStr (cell 17 (elem x2.toNat x)).toRows (cell 18 (elem x2.toNat x)).toInt (cell 19 (elem x2.toNat x)).toInt 0 0 0 { data := #[] } 0 0 0 0 0 { data := #[] } false { data := #[] } { data := #[] } { data := #[] } { data := #[] } [] 0 0 ((k0)) ((k0)) fun o_0 => F6_522855 fu true c c1 o_0 y ((k0)) ((F6_2042 fu id x x1 c n (IntKind.i64.wrap (now + 1)) true (IntKind.i64.wrap (x2 + 1)) c1 o_0 y k0 k1))) fun o1 o2 => F6_16731349 fu id (IntKind.i64.wrap (now + 1)) open_ 0 want (cell 1 (elem x2.toNat x)).toInt (cell 4 (elem x2.toNat x)).toInt (cell 5 (elem x2.toNat x)).toStr (cell 6 (elem x2.toNat x)).toInt (cell 7 (elem x2.toNat x)).toInt (cell 8 (elem x2.toNat x)).toInt (cell 9 (elem x2.toNat x)).toInt (cell 10 (elem x2.toNat x)).toInt (cell 11 (elem x2.toNat x)).toStr (cell 12 (elem x2.toNat x)).toBool (cell 13 (elem x2.toNat x)).toStr (cell 14 (elem x2.toNat x)).toStr (cell 15 (elem x2.toNat x)).toStr (cell 16 (elem x2.toNat x)).toStr (cell 17 (elem x2.toNat x)).toRows (cell 18 (elem x2.toNat x)).toInt (cell 19 (elem x2.toNat x)).toInt (cell 0 o1).toInt (cell 1 o1).toInt (cell 2 o1).toInt (cell 3 o1).toStr (cell 4 o1).toInt (cell 5 o1).toInt (cell 6 o1).toInt (cell 7 o1).toInt (cell 8 o1).toInt (cell 9 o1).toStr (cell 10 o1).toBool (cell 11 o1).toStr (cell 12 o1).toStr (cell 13 o1).toStr (cell 14 o1).toStr (cell 15 o1).toRows (cell 16 o1).toInt (cell 17 o1).toInt ((k0)) ((k0)) fun o_3 => F6_522855 fu true c true o_3 o2 ((k0)) ((F6_2042 fu id x x1 c n (IntKind.i64.wrap (now + 1)) true (IntKind.i64.wrap (x2 + 1)) true o_3 o2 k0 k1)) else bif decide ((cell 0 (elem x2.toNat x)).toInt = 1) then bif open_ then F6_66925405 fu (IntKind.i64.wrap (now + 1)) open_ (decide ((cell 1 (elem x2.toNat x)).toInt = ofN want.length)) c c1 want (cell 1 (elem x2.toNat x)).toInt (cell 20 (elem x2.toNat x)).toInt (cell 21 (elem x2.toNat x)).toRows (cell 22 (elem x2.toNat x)).toRows y (fun o_4 o_5 => (k0)) fun o_6 o_7 o_8 o_9 => F6_522855 fu o_6 c o_7 o_8 o_9 ((k0)) ((F6_2042 fu id x x1 c n (IntKind.i64.wrap (now + 1)) o_6 (IntKind.i64.wrap (x2 + 1)) o_7 o_8 o_9 k0 k1)) else F6_66925405 fu (IntKind.i64.wrap (now + 1)) open_ false c c1 want (cell 1 (elem x2.toNat x)).toInt (cell 20 (elem x2.toNat x)).toInt (cell 21 (elem x2.toNat x)).toRows (cell 22 (elem x2.toNat x)).toRows y (fun o_10 o_11 => (k0)) fun o_12 o_13 o_14 o_15 => F6_522855 fu o_12 c o_13 o_14 o_15 ((k0)) ((F6_2042 fu id x x1 c n (IntKind.i64.wrap (now + 1)) o_12 (IntKind.i64.wrap (x2 + 1)) o_13 o_14 o_15 k0 k1)) else F24 fu c y c1 (bif !c1 == open_ then (k0) else F6_522855 fu false c false want y ((k0)) ((F6_2042 fu id x x1 c n (IntKind.i64.wrap (now + 1)) false (IntKind.i64.wrap (x2 + 1)) false want y k0 k1))) else none else (k1)

noncomputable def t6_2042 (fu n : Nat) : ToldP := fun _ e s K => match e, s with
  | [.int .i64 id, .int .i64 now, .ptr 0 0, .own 1, .bool open_, .fz zq0 x false, .int .i64 x1, .int .i64 x2], [.obj [.int .i64 c, .own 2, .bool c1], .row zq1 want, .row zq2 y] => (match FT.sames zq0 ft9 with | true => (match FT.sames zq1 ft7 with | true => (match FT.sames zq2 ft7 with | true => F6_2042 fu id x x1 c n now open_ x2 c1 want y (K .ret (unpackM (bitsM 7 0x40) [.bool (false)]) []) (K (.exit 0) (unpackM (bitsM 7 0x0) []) []) | false => none) | false => none) | false => none)
  | _, _ => none

noncomputable def pc6_2042 (fu : Nat) : Nat → Option ToldP := fun p => match Nat.beq p 16731349 with | true => some (ghP 0 [.live (bitsM 57 0x1c0000000003b83), .ownP 8 [] ft7, .fzP 54 [] ft9, .gc, .ownC 0 1 ft7, .fzC 2 17 ft2, .fzC 2 21 ft3, .fzC 2 22 ft4, .fzC 3 15 ft2, .gc] (pkP (bitsM 57 0x1c0000000003b83) (t6_16731349 fu))) | false => match Nat.beq p 522855 with | true => some (ghP 0 [.live (bitsM 57 0x1c0000000000383), .ownP 8 [] ft7, .fzP 54 [] ft9, .gc, .ownC 0 1 ft7, .gc] (pkP (bitsM 57 0x1c0000000000383) (t6_522855 fu))) | false => match Nat.beq p 66925405 with | true => some (ghP 0 [.live (bitsM 57 0x1c0000000008b83), .ownP 8 [] ft7, .fzP 54 [] ft9, .gc, .ownC 0 1 ft7, .fzC 2 17 ft2, .fzC 2 21 ft3, .fzC 2 22 ft4, .gc] (pkP (bitsM 57 0x1c0000000008b83) (t6_66925405 fu))) | false => none
theorem e6_2042 (fu n : Nat) (R : Type) (K : VExit → UEnv → USt → Option R) (id : Int) (now : Int) (open_ : Bool) (x : List (List D)) (x1 : Int) (x2 : Int) (c : Int) (c1 : Bool) (want : List (List D)) (y : List (List D)) :
    F6_2042 fu id x x1 c (n + 1) now open_ x2 c1 want y (K .ret (unpackM (bitsM 7 0x40) [.bool (false)]) []) (K (.exit 0) (unpackM (bitsM 7 0x0) []) []) = uexec Try.prog (tb5 fu) 300 (pc6_2042 fu) 4084 (loopBody (codeAt code6 2042)) (unpackM (bitsM 57 0x1c0000000000383) [.int .i64 id, .int .i64 now, .ptr 0 0, .own 1, .bool open_, .fz ft9 x false, .int .i64 x1, .int .i64 x2]) [.obj [.int .i64 c, .own 2, .bool c1], .row ft7 want, .row ft7 y] (loopK 0 [.live (bitsM 57 0x1c0000000000383), .ownP 8 [] ft7, .fzP 54 [] ft9, .gc, .ownC 0 1 ft7, .gc] [.live (bitsM 7 0x40), .gc] (pkP (bitsM 57 0x1c0000000000383) (t6_2042 fu n)) K) := by kernel_rfl

theorem p6_2042 (fu : Nat) : SoundPc Try.prog 0 code6 (pc6_2042 fu) := fun p told h b hb => by
  replace h : pc6_2042 fu p = some told := h
  unfold pc6_2042 at h
  split at h
  · rename_i hp
    cases h
    have := Nat.eq_of_beq_eq_true hp
    subst this
    rw [a6_16731349] at hb
    cases hb
    exact ghP_sound (s6_16731349 fu)
  ·
    split at h
    · rename_i hp
      cases h
      have := Nat.eq_of_beq_eq_true hp
      subst this
      rw [a6_522855] at hb
      cases hb
      exact ghP_sound (s6_522855 fu)
    ·
      split at h
      · rename_i hp
        cases h
        have := Nat.eq_of_beq_eq_true hp
        subst this
        rw [a6_66925405] at hb
        cases hb
        exact ghP_sound (s6_66925405 fu)
      ·
        cases h

theorem s6_2042 (fu : Nat) : ∀ n, SoundP Try.prog 0 (.loop (loopBody (codeAt code6 2042))) (pkP (bitsM 57 0x1c0000000000383) (t6_2042 fu n)) := by
  refine loopP_sound (gin := [.live (bitsM 57 0x1c0000000000383), .ownP 8 [] ft7, .fzP 54 [] ft9, .gc, .ownC 0 1 ft7, .gc]) (gout := [.live (bitsM 7 0x40), .gc]) (k := 300) (tb5_sound fu) (p6_2042 fu) (by decide) a6_2042 (fun R e s K => ?_) (fun n R e s K r h => ?_)
  · unfold t6_2042; repeat' split
    all_goals rfl
  · unfold t6_2042 at h; split at h
    case h_2 => cases h
    split at h
    case h_2 => cases h
    rename_i hq
    have hq := FT.sames_eq _ _ hq
    subst hq
    split at h
    case h_2 => cases h
    rename_i hq
    have hq := FT.sames_eq _ _ hq
    subst hq
    split at h
    case h_2 => cases h
    rename_i hq
    have hq := FT.sames_eq _ _ hq
    subst hq
    exact (e6_2042 fu n R K _ _ _ _ _ _ _ _ _ _).symm.trans h


noncomputable def F6 {R : Type} (fu : Nat) (id : Int) (now : Int) (l : List (List D)) (k0 : Bool → Option R) : Option R :=
  F28 fu l fun o0 => bif !o0 then F16 fu fun o1 => (k0 o1) else bif decide (now < 0) then F16 fu fun o2 => (k0 o2) else bif decide (1099511627776 < now) then F16 fu fun o3 => (k0 o3) else F17 fu id (bif decide (id < 1) then F16 fu fun o4 => (k0 o4) else bif decide (60 < id) then F16 fu fun o5 => (k0 o5) else (k0 false)) (bif decide (id < 1) then (k0 false) else bif decide (60 < id) then (k0 false) else F29 fu id [] false (bif !decide (id = id) then (k0 false) else F6_2042 fu id l (ofN l.length) id fu now false 0 false [] [] ((k0 false)) (F16 fu fun o6 => (k0 o6))))

noncomputable def pc6 (fu : Nat) : Nat → Option ToldP := fun p => match Nat.beq p 2042 with | true => some (ghP 0 [.live (bitsM 57 0x1c0000000000383), .ownP 8 [] ft7, .fzP 54 [] ft9, .gc, .ownC 0 1 ft7, .gc] (pkP (bitsM 57 0x1c0000000000383) (t6_2042 fu fu))) | false => none
noncomputable def t6 (fu : Nat) : ToldF := fun _ args s K => match args, s with
  | [.int .i64 id, .int .i64 now, .fz zq0 l false], [] => (match FT.sames zq0 ft9 with | true => F6 fu id now l (fun o_ => K (.bool o_) []) | false => none)
  | _, _ => none

theorem e6 (R : Type) (K : UV → USt → Option R) (fu : Nat) (id : Int) (now : Int) (l : List (List D)) :
    F6 fu id now l (fun o_ => K (.bool o_) []) = ufun Try.prog ⟨(tb5 fu), pc6 fu⟩ 300 6 [.int .i64 id, .int .i64 now, .fz ft9 l false] [] (funK 0 [.gc] K) := by kernel_rfl

theorem s6 (fu : Nat) : Tells Try.prog 6 (t6 fu) := by
  refine ufun_sound (T := ⟨(tb5 fu), pc6 fu⟩) (m := 0) (gout := [.gc]) (k := 300) (tb5_sound fu) (fun fn body hf hb => ?_) (fun R args s K r h => ?_) (fun R args s K r h => ?_)
  · have hc : body = code6 := by
      have h1 : Try.prog.funcs[6]? = some Try.f6 := rfl
      rw [h1] at hf; cases hf
      have h2 : Try.f6.body = some code6 := rfl
      rw [h2] at hb; cases hb; rfl
    subst hc
    exact fun p told h b hb => by
      replace h : pc6 fu p = some told := h
      unfold pc6 at h
      split at h
      · rename_i hp
        cases h
        have := Nat.eq_of_beq_eq_true hp
        subst this
        rw [a6_2042] at hb
        cases hb
        exact ghP_sound (s6_2042 fu _)
      ·
        cases h

  · unfold t6 at h; split at h
    · rfl
    · cases h
  · unfold t6 at h; split at h
    case h_2 => cases h
    split at h
    case h_2 => cases h
    rename_i hq
    have hq := FT.sames_eq _ _ hq
    subst hq
    exact (e6 R K fu _ _ _).symm.trans h

noncomputable def tb6 (fu : Nat) : FuncId → Option (Bool × ToldF) := fun f => match Nat.beq f 6 with
  | true => some (false, ghG [.fzP 2 [] ft9] (t6 fu))
  | false => (tb5 fu) f
theorem tb6_sound (fu : Nat) : SoundF' Try.prog (tb6 fu) := by
  intro f own told h
  unfold tb6 at h
  split at h
  · rename_i hb
    cases h
    have := Nat.eq_of_beq_eq_true hb
    subst this
    exact ghG_sound (s6 fu)
  · exact (tb5_sound fu) f own told h

end Go.Proofs.Ytdoikghgblohjaa.V

/- From the plain law of function 6 to V's. -/
namespace Go.Proofs.Ytdoikghgblohjaa.V

theorem law6 (fu : Nat) (H : ∀ (ds1 ds2 ds3 : List D), WFDs ft3 ds1 → WFDs ft3 ds2 → WFDs [FT.row 280 [FT.int IntKind.i64, FT.int IntKind.i64, FT.int IntKind.i64, FT.int IntKind.i64, FT.int IntKind.i64, FT.str, FT.int IntKind.i64, FT.int IntKind.i64, FT.int IntKind.i64, FT.int IntKind.i64, FT.int IntKind.i64, FT.str, FT.bool, FT.str, FT.str, FT.str, FT.str, FT.row 16 [FT.str], FT.int IntKind.i64, FT.int IntKind.i64, FT.int IntKind.i64, FT.row 8 [FT.int IntKind.i64], FT.row 64 [FT.int IntKind.i64, FT.int IntKind.i64, FT.str, FT.str, FT.str]]] ds3 → F6 fu ((cell 0 ds1).toInt) ((cell 0 ds2).toInt) ((cell 0 ds3).toRows) (fun o => some o) = some true) : Law Try.prog 6 Try.f6.params.toList := by
  refine law_of_told (by kernel_rfl) (by kernel_rfl) (s6 fu) (fun dss hw => ?_)
  have hts : Try.f6.params.toList = [3, 3, 61] := rfl
  rw [hts] at hw
  cases hw with
  | cons t1 ts1 fts1 ds1 dss1 hf1 hd1 hr1 =>
    have e1 : flat Try.prog 20 3 = some ft3 := by kernel_rfl
    rw [e1] at hf1; cases hf1
    cases hr1 with
    | cons t2 ts2 fts2 ds2 dss2 hf2 hd2 hr2 =>
      have e2 : flat Try.prog 20 3 = some ft3 := by kernel_rfl
      rw [e2] at hf2; cases hf2
      cases hr2 with
      | cons t3 ts3 fts3 ds3 dss3 hf3 hd3 hr3 =>
        have e3 : flat Try.prog 20 61 = some [FT.row 280 [FT.int IntKind.i64, FT.int IntKind.i64, FT.int IntKind.i64, FT.int IntKind.i64, FT.int IntKind.i64, FT.str, FT.int IntKind.i64, FT.int IntKind.i64, FT.int IntKind.i64, FT.int IntKind.i64, FT.int IntKind.i64, FT.str, FT.bool, FT.str, FT.str, FT.str, FT.str, FT.row 16 [FT.str], FT.int IntKind.i64, FT.int IntKind.i64, FT.int IntKind.i64, FT.row 8 [FT.int IntKind.i64], FT.row 64 [FT.int IntKind.i64, FT.int IntKind.i64, FT.str, FT.str, FT.str]]] := by kernel_rfl
        rw [e3] at hf3; cases hf3
        cases hr3
        have h1 : t6 fu Bool (argsU Try.prog Try.f6.params.toList [ds1, ds2, ds3]) [] boolK = F6 fu ((cell 0 ds1).toInt) ((cell 0 ds2).toInt) ((cell 0 ds3).toRows) (fun o => some o) := by kernel_rfl
        exact h1.trans (H ds1 ds2 ds3 hd1 hd2 hd3)
end Go.Proofs.Ytdoikghgblohjaa.V

/- awake answers true. -/
namespace Go.Proofs.Ytdoikghgblohjaa.V
theorem awake16 {R : Type} (m : Nat) (k0 : Bool → Option R) : F16 (m + 2) k0 = k0 true := by kernel_rfl
end Go.Proofs.Ytdoikghgblohjaa.V

/- Words that all plain proofs use. -/
namespace Go.Proofs.Ytdoikghgblohjaa.V

theorem wrap_of {x : Int} (h0 : -9223372036854775808 ≤ x) (h1 : x ≤ 9223372036854775807) : IntKind.i64.wrap x = x := by
  rw [IntKind.wrap_i64]; omega

theorem wrap_succ {i : Nat} (h : i ≤ 9223372036854775806) : IntKind.i64.wrap ((i : Int) + 1) = ((i + 1 : Nat) : Int) := by rw [wrap_of (by omega) (by omega)]; rfl

theorem fits_of {n b : Nat} (hn : n ≤ 1000000) (hb : b ≤ 1000) : fits n b = true := by
  unfold fits maxBytes
  have : n * b ≤ 1000000 * 1000 := Nat.mul_le_mul hn hb
  exact decide_eq_true ⟨by omega, by omega⟩

theorem within_of {j n : Nat} (h : j < n) : within (j : Int) n = true := by
  unfold within; exact decide_eq_true ⟨by omega, by omega⟩

theorem within_int {j : Int} {n : Nat} (h0 : 0 ≤ j) (h : j < n) : within j n = true := by
  unfold within; exact decide_eq_true ⟨h0, by omega⟩

theorem lt_true {a b : Int} (h : a < b) : decide (a < b) = true := decide_eq_true h
theorem lt_false {a b : Int} (h : ¬ a < b) : decide (a < b) = false := decide_eq_false h
theorem le_true {a b : Int} (h : a ≤ b) : decide (a ≤ b) = true := decide_eq_true h
theorem le_false {a b : Int} (h : ¬ a ≤ b) : decide (a ≤ b) = false := decide_eq_false h
theorem eq_true {a b : Int} (h : a = b) : decide (a = b) = true := decide_eq_true h
theorem eq_false {a b : Int} (h : ¬ a = b) : decide (a = b) = false := decide_eq_false h

theorem strEq_refl (x : ByteArray) : strEq x x = true := by simp [strEq]

theorem elem_mem {i : Nat} {l : List (List D)} (h : i < l.length) : elem i l ∈ l := by
  unfold elem
  rw [List.getD_eq_getElem?_getD, List.getElem?_eq_getElem h]
  exact List.getElem_mem h

/-- Sizes of data as it comes. -/
theorem WFD.rows_len {bytes : Nat} {fts : List FT} {d : D} (h : WFD (.row bytes fts) d) : d.toRows.length * bytes ≤ reachBytes := by
  cases h with
  | nil => simp [D.toRows]
  | row _ _ rows hb hl hr => simp only [D.toRows]; first | exact hb | (simpa using hb)

theorem WFD.str_len {d : D} (h : WFD .str d) : d.toStr.size ≤ reachBytes := by
  cases h with
  | str s h => exact h

theorem WFD.rows {bytes : Nat} {fts : List FT} {d : D} (h : WFD (.row bytes fts) d) : ∀ r ∈ d.toRows, WFDs fts r := by
  cases h with
  | nil => intro r hr; cases hr
  | row _ _ rows hb hl hr =>
    intro r hm
    refine ⟨hl r hm, fun j ft d h1 h2 => hr r hm j ft d h1 h2⟩

theorem WFDs.cell {fts : List FT} {ds : List D} (h : WFDs fts ds) {j : Nat} {ft : FT} (hj : fts[j]? = some ft) : WFD ft (V.cell j ds) := by
  have hlt : j < ds.length := by rw [h.len]; exact (List.getElem?_eq_some_iff.1 hj).1
  have hd := List.getElem?_eq_getElem hlt
  unfold V.cell
  rw [List.getD_eq_getElem?_getD, hd]
  exact h.at_ j ft _ hj hd

theorem reach_lt : reachBytes < 140737488355328 := by decide

end Go.Proofs.Ytdoikghgblohjaa.V

/- Few: what it bounds. -/
namespace Go.Proofs.Ytdoikghgblohjaa.V
variable {R : Type}

/-- Rows whose texts are as they come. -/
def TextRows (l : List (List D)) : Prop := ∀ r ∈ l, (cell 0 r).toStr.size < 140737488355328

theorem few_in (fu : Nat) (c : List (List D)) (hc : TextRows c) (k0 : Int → Int → Bool → Option R) (k1 : Int → Option R) :
    ∀ (n i : Nat) (a : Int), 22 ≤ i + n → i ≤ 21 → 0 ≤ a → a ≤ 1000000000000000000 + i * 140737488355328 →
      ∃ m : Int, a ≤ m ∧ m ≤ a + (21 - i : Nat) * 140737488355328 ∧ (F15_14926 fu c n a (i : Int) k0 k1 = k1 m ∨ ∃ j b, F15_14926 fu c n a (i : Int) k0 k1 = k0 m j b) := by
  intro n
  induction n with
  | zero => intro i a h1 h2; omega
  | succ n ih =>
    intro i a h1 h2 h3 h4
    unfold F15_14926
    by_cases hi : i < c.length
    · rw [lt_true (show (i : Int) < ofN c.length by unfold ofN; omega), cond_true]
      by_cases h20 : i ≤ 20
      · have hs : (cell 0 (elem (i : Int).toNat c)).toStr.size < 140737488355328 := hc _ (elem_mem (by omega))
        rw [le_true (show (i : Int) ≤ 20 by omega), cond_true, within_of hi, cond_true, wrap_succ (by omega), wrap_of (by unfold ofN; omega) (by unfold ofN; omega)]
        obtain ⟨m, m1, m2, m3⟩ := ih (i + 1) (a + ofN (cell 0 (elem (i : Int).toNat c)).toStr.size) (by omega) (by omega) (by unfold ofN; omega) (by unfold ofN; omega)
        refine ⟨m, by unfold ofN at m1; omega, ?_, m3⟩
        unfold ofN at m2
        have : (21 - i : Nat) = (21 - (i + 1) : Nat) + 1 := by omega
        rw [this]
        push_cast
        omega
      · rw [le_false (show ¬ (i : Int) ≤ 20 by omega), cond_false]
        exact ⟨a, Int.le_refl _, by omega, .inr ⟨_, _, rfl⟩⟩
    · rw [lt_false (show ¬ (i : Int) < ofN c.length by unfold ofN; omega), cond_false]
      exact ⟨a, Int.le_refl _, by omega, .inl rfl⟩

/-- A command whose sizes are as they come. -/
structure CmdSz (c : List D) : Prop where
  s3 : (cell 3 c).toStr.size < 140737488355328
  s9 : (cell 9 c).toStr.size < 140737488355328
  s11 : (cell 11 c).toStr.size < 140737488355328
  s12 : (cell 12 c).toStr.size < 140737488355328
  s13 : (cell 13 c).toStr.size < 140737488355328
  s14 : (cell 14 c).toStr.size < 140737488355328
  rows : (cell 15 c).toRows.length < 140737488355328
  texts : TextRows (cell 15 c).toRows

theorem few_out (fu : Nat) (hfu : 22 ≤ fu) (l : List (List D)) (hl : ∀ r ∈ l, CmdSz r) (k0 : Int → Option R) :
    ∀ (n i : Nat) (a : Int), 62 ≤ i + n → i ≤ 61 → 0 ≤ a → a ≤ i * 10000000000000000 →
      ∃ m : Int, a ≤ m ∧ F15_58 fu l n a (i : Int) k0 = k0 m ∧ ∀ j : Nat, i ≤ j → j < l.length → j ≤ 60 → a + 8 * ((cell 15 (elem j l)).toRows.length : Int) ≤ m := by
  intro n
  induction n with
  | zero => intro i a h1 h2; omega
  | succ n ih =>
    intro i a h1 h2 h3 h4
    unfold F15_58
    by_cases hi : i < l.length
    · rw [lt_true (show (i : Int) < ofN l.length by unfold ofN; omega), cond_true]
      by_cases h60 : i ≤ 60
      · rw [le_true (show (i : Int) ≤ 60 by omega), cond_true, within_of hi, cond_true, wrap_succ (by omega)]
        have hc := hl _ (elem_mem hi)
        rw [Int.toNat_natCast]
        generalize hce : elem i l = c at hc ⊢
        obtain ⟨s3, s9, s11, s12, s13, s14, rows, texts⟩ := hc
        have hw : IntKind.i64.wrap (a + IntKind.i64.wrap (IntKind.i64.wrap (IntKind.i64.wrap (IntKind.i64.wrap (IntKind.i64.wrap (IntKind.i64.wrap (ofN (cell 11 c).toStr.size + ofN (cell 12 c).toStr.size) + ofN (cell 13 c).toStr.size) + ofN (cell 14 c).toStr.size) + ofN (cell 3 c).toStr.size) + ofN (cell 9 c).toStr.size) + IntKind.i64.wrap (8 * ofN (cell 15 c).toRows.length))) = a + (ofN (cell 11 c).toStr.size + ofN (cell 12 c).toStr.size + ofN (cell 13 c).toStr.size + ofN (cell 14 c).toStr.size + ofN (cell 3 c).toStr.size + ofN (cell 9 c).toStr.size + 8 * ofN (cell 15 c).toRows.length) := by
          unfold ofN
          rw [wrap_of (x := ((cell 11 c).toStr.size : Int) + _) (by omega) (by omega)]
          rw [wrap_of (x := ((cell 11 c).toStr.size : Int) + _ + ((cell 13 c).toStr.size : Int)) (by omega) (by omega)]
          rw [wrap_of (x := ((cell 11 c).toStr.size : Int) + _ + _ + ((cell 14 c).toStr.size : Int)) (by omega) (by omega)]
          rw [wrap_of (x := ((cell 11 c).toStr.size : Int) + _ + _ + _ + ((cell 3 c).toStr.size : Int)) (by omega) (by omega)]
          rw [wrap_of (x := ((cell 11 c).toStr.size : Int) + _ + _ + _ + _ + ((cell 9 c).toStr.size : Int)) (by omega) (by omega)]
          rw [wrap_of (x := 8 * ((cell 15 c).toRows.length : Int)) (by omega) (by omega)]
          rw [wrap_of (x := ((cell 11 c).toStr.size : Int) + _ + _ + _ + _ + _ + 8 * ((cell 15 c).toRows.length : Int)) (by omega) (by omega)]
          rw [wrap_of (by omega) (by omega)]
        rw [hw]
        generalize hb : a + (ofN (cell 11 c).toStr.size + ofN (cell 12 c).toStr.size + ofN (cell 13 c).toStr.size + ofN (cell 14 c).toStr.size + ofN (cell 3 c).toStr.size + ofN (cell 9 c).toStr.size + 8 * ofN (cell 15 c).toRows.length) = b
        have hb1 : a + 8 * ((cell 15 c).toRows.length : Int) ≤ b := by unfold ofN at hb; omega
        have hb2 : b ≤ a + 14 * 140737488355328 := by unfold ofN at hb; omega
        obtain ⟨m, m1, m2, m3⟩ := few_in fu (cell 15 c).toRows texts (fun o0 o1 o2 => F15_58 fu l n o0 ((i + 1 : Nat) : Int) k0) (fun o3 => F15_58 fu l n o3 ((i + 1 : Nat) : Int) k0) fu 0 b (by omega) (by omega) (by omega) (by omega)
        obtain ⟨q, q1, q2, q3⟩ := ih (i + 1) m (by omega) (by omega) (by omega) (by push_cast; omega)
        have hq : F15_14926 fu (cell 15 c).toRows fu b 0 (fun o0 o1 o2 => F15_58 fu l n o0 ((i + 1 : Nat) : Int) k0) (fun o3 => F15_58 fu l n o3 ((i + 1 : Nat) : Int) k0) = k0 q := by
          rcases m3 with m3 | ⟨j, b', m3⟩
          · exact (by simpa using m3.trans q2)
          · exact (by simpa using m3.trans q2)
        refine ⟨q, by omega, hq, fun j hj1 hj2 hj3 => ?_⟩
        by_cases hj : j = i
        · subst hj; rw [hce]; omega
        · have := q3 j (by omega) hj2 hj3
          omega
      · rw [le_false (show ¬ (i : Int) ≤ 60 by omega), cond_false]
        exact ⟨a, Int.le_refl _, rfl, fun j hj1 hj2 hj3 => by omega⟩
    · rw [lt_false (show ¬ (i : Int) < ofN l.length by unfold ofN; omega), cond_false]
      exact ⟨a, Int.le_refl _, rfl, fun j hj1 hj2 hj3 => by omega⟩
end Go.Proofs.Ytdoikghgblohjaa.V

/- ClientOpens: what its code computes is true. -/
namespace Go.Proofs.Ytdoikghgblohjaa.V
variable {R : Type}

/-- A command, cell by cell. -/
abbrev N5 (c : List D) : List D := [D.int (cell 0 c).toInt, D.int (cell 1 c).toInt, D.int (cell 2 c).toInt, D.str (cell 3 c).toStr, D.int (cell 4 c).toInt, D.int (cell 5 c).toInt, D.int (cell 6 c).toInt, D.int (cell 7 c).toInt, D.int (cell 8 c).toInt, D.str (cell 9 c).toStr, D.bool (cell 10 c).toBool, D.str (cell 11 c).toStr, D.str (cell 12 c).toStr, D.str (cell 13 c).toStr, D.str (cell 14 c).toStr, D.row (cell 15 c).toRows, D.int (cell 16 c).toInt, D.int (cell 17 c).toInt]
/-- With a client, and a number. -/
abbrev M5 (id req : Int) (c : List D) : List D := [D.int id, D.int req, D.int (cell 2 c).toInt, D.str (cell 3 c).toStr, D.int (cell 4 c).toInt, D.int (cell 5 c).toInt, D.int (cell 6 c).toInt, D.int (cell 7 c).toInt, D.int (cell 8 c).toInt, D.str (cell 9 c).toStr, D.bool (cell 10 c).toBool, D.str (cell 11 c).toStr, D.str (cell 12 c).toStr, D.str (cell 13 c).toStr, D.str (cell 14 c).toStr, D.row (cell 15 c).toRows, D.int (cell 16 c).toInt, D.int (cell 17 c).toInt]

theorem F62_ok (fu : Nat) (c : List D) (k : List D → Option R) (h : (cell 15 c).toRows.length ≤ 1000) : F62 fu c k = k c := by
  unfold F62 F78
  rw [fits_of (by omega) (by omega), cond_true]

theorem F63_ok (fu : Nat) (c : List D) (k : List D → Option R) (h1 : (cell 1 c).toRows.length ≤ 1000) (h2 : (cell 2 c).toRows.length ≤ 1000) : F63 fu c k = k c := by
  unfold F63 F79 F80
  rw [fits_of (by omega) (by omega), cond_true, fits_of (by omega) (by omega), cond_true]

theorem F27_ok (fu : Nat) (c : List D) (k : List D → Option R) : F27 fu c k = k (N5 c) := rfl

theorem same_loop (fu : Nat) (l : List (List D)) (k0 k1 : Option R) : ∀ (n i : Nat), l.length + 1 ≤ i + n → i ≤ l.length → l.length ≤ 100000 → F26_58 fu (ofN l.length) l l n (i : Int) k0 k1 = k1 := by
  intro n
  induction n with
  | zero =>
    intro i h1 h2; omega
  | succ n ih =>
    intro i h1 h0 h2
    unfold F26_58
    by_cases hi : i < l.length
    · rw [lt_true (show (i : Int) < ofN l.length by unfold ofN; omega), cond_true, within_of hi, cond_true, strEq_refl, wrap_succ (by omega)]
      exact ih (i + 1) (by omega) (by omega) h2
    · rw [lt_false (show ¬ (i : Int) < ofN l.length by unfold ofN; omega), cond_false]

theorem sameCmd_refl (fu : Nat) (a : List D) (k : Bool → Option R) (h : (cell 15 a).toRows.length < fu) (h2 : fu ≤ 100000) : F26 fu a a k = k true := by
  unfold F26
  rw [eq_true rfl, Bool.not_true, cond_false, show (0 : Int) = ((0 : Nat) : Int) from rfl, same_loop _ _ _ _ _ _ (by omega) (by omega) (by omega)]
  simp [strEq_refl]

theorem few_told (fu : Nat) (hfu : 62 ≤ fu) (l : List (List D)) (hl : ∀ r ∈ l, CmdSz r) (k : Bool → Option R) :
    ∃ b, F15 fu l k = k b ∧ (b = true → l.length ≤ 60 ∧ ∀ r ∈ l, (cell 15 r).toRows.length ≤ 750) := by
  obtain ⟨m, m1, m2, m3⟩ := few_out fu (by omega) l hl (fun o0 => bif decide (ofN l.length ≤ 60) then (k (decide (o0 ≤ 6000))) else (k false)) fu 0 0 (by omega) (by omega) (by omega) (by omega)
  have e : F15 fu l k = bif decide (ofN l.length ≤ 60) then (k (decide (m ≤ 6000))) else (k false) := m2
  by_cases hl : l.length ≤ 60
  · rw [le_true (show ofN l.length ≤ 60 by unfold ofN; omega), cond_true] at e
    refine ⟨_, e, fun hb => ⟨hl, fun r hr => ?_⟩⟩
    have hb := of_decide_eq_true hb
    obtain ⟨j, hj, rfl⟩ := List.getElem_of_mem hr
    have := m3 j (by omega) hj (by omega)
    have he : elem j l = l[j] := by unfold elem; rw [List.getD_eq_getElem?_getD, List.getElem?_eq_getElem hj]; rfl
    rw [he] at this
    omega
  · rw [le_false (show ¬ ofN l.length ≤ 60 by unfold ofN; omega), cond_false] at e
    exact ⟨false, e, fun h => by cases h⟩

theorem CmdSz.norm {c : List D} (h : CmdSz c) : CmdSz (N5 c) := ⟨h.s3, h.s9, h.s11, h.s12, h.s13, h.s14, h.rows, h.texts⟩

theorem begin5 (fu : Nat) (now : Int) (c : List D) (id : Int) (l : List (List D)) (hl : l.length ≤ 1000) (hc : (cell 15 c).toRows.length ≤ 1000) (k0 : Option R) (k1 : List D → List (List D) → Option R) :
    F18 fu now (N5 c) id l false k0 k1 = k1 (M5 id (l.length + 1) c) (l ++ [M5 id (l.length + 1) c ++ [D.int now, D.int 0, D.bool false, D.int 0, D.nil, D.nil]]) := by
  unfold F18
  rw [cond_false, F62_ok, fits_of (by omega) (by omega), cond_true, wrap_of (by unfold ofN; omega) (by unfold ofN; omega), F62_ok]
  · rfl
  · exact hc
  · exact hc

theorem open5 (fu : Nat) (id : Int) (l : List (List D)) (c : List D) (hl : l.length ≤ 1000) (hc : (cell 15 c).toRows.length ≤ 1000) (k : List D → Bool → Option R) : F25 fu id (l ++ [c]) true k = k (N5 c) true := by
  unfold F25
  have e1 : IntKind.i64.wrap (ofN (l ++ [c]).length - 1) = (l.length : Int) := by
    rw [List.length_append, List.length_singleton]; unfold ofN; rw [wrap_of (by omega) (by omega)]; omega
  have e2 : elem l.length (l ++ [c]) = c := by unfold elem; simp [List.getD_eq_getElem?_getD]
  rw [Bool.not_true, cond_false, e1, within_of (by simp), cond_true, Int.toNat_natCast, e2, F62_ok]
  exact hc

theorem shut5 (fu : Nat) (id : Int) (l : List (List D)) (k : List D → Bool → Option R) : F25 fu id l false k = k [D.int 0, D.int 0, D.int 0, D.str ({ data := #[] }), D.int 0, D.int 0, D.int 0, D.int 0, D.int 0, D.str ({ data := #[] }), D.bool false, D.str ({ data := #[] }), D.str ({ data := #[] }), D.str ({ data := #[] }), D.str ({ data := #[] }), D.row [], D.int 0, D.int 0] false := rfl

theorem end5 (fu : Nat) (now req : Int) (a : List D) (id : Int) (l : List (List D)) (hl : l.length ≤ 1000) (k : Bool → Bool → List (List D) → Option R) (hr : req ≠ l.length) : F19 fu now req a id l true k = k false true l := by
  unfold F19
  rw [Bool.not_true, cond_false, eq_false (show ¬ req = ofN l.length from hr)]
  rfl

theorem ended5 (fu : Nat) (now : Int) (a : List D) (id : Int) (l : List (List D)) (c : List D) (hl : l.length ≤ 1000) (h1 : (cell 1 a).toRows.length ≤ 1000) (h2 : (cell 2 a).toRows.length ≤ 1000) (k : Bool → Bool → List (List D) → Option R) :
    F19 fu now (l.length + 1) a id (l ++ [c]) true k = k true false (putAt (putAt (putAt (l ++ [c]) l.length 19 [D.int now]) l.length 20 [D.bool true]) l.length 21 [D.int (cell 0 a).toInt, D.row (cell 1 a).toRows, D.row (cell 2 a).toRows]) := by
  unfold F19
  have e1 : IntKind.i64.wrap (ofN (l ++ [c]).length - 1) = (l.length : Int) := by
    rw [List.length_append, List.length_singleton]; unfold ofN; rw [wrap_of (by omega) (by omega)]; omega
  rw [Bool.not_true, cond_false, eq_true (show (l.length : Int) + 1 = ofN (l ++ [c]).length by rw [List.length_append, List.length_singleton]; rfl), Bool.not_true, cond_false, e1, within_of (by simp), cond_true, Int.toNat_natCast, F63_ok]
  · rfl
  · exact h1
  · exact h2

theorem opens5 (cmd : List D) (hw : CmdSz cmd) (req : Int) (gives : Bool) : F5 1000 cmd req gives (fun o => some o) = some true := by
  unfold F5 F17
  rw [awake16 998]
  obtain ⟨b, h1, h2⟩ := few_told (R := Bool) 1000 (by omega) [N5 cmd] (by intro r hr; simp only [List.mem_singleton] at hr; subst hr; exact hw.norm) _
  simp only [cond_false, show decide ((7 : Int) < 1) = false from rfl, show decide ((60 : Int) < 7) = false from rfl]
  rw [h1]
  cases b with
  | false => rfl
  | true =>
    have hb : (cell 15 cmd).toRows.length ≤ 750 := (h2 rfl).2 (N5 cmd) (by simp)
    simp only [Bool.not_true, cond_false]
    rw [begin5 _ _ _ _ _ (by simp) (by omega), open5]
    · simp only [Bool.not_true, cond_false]
      rw [F27_ok, F27_ok]
      show F26 1000 (M5 7 1 cmd) (M5 7 1 cmd) _ = _
      rw [sameCmd_refl _ (M5 7 1 cmd) _ (show (cell 15 cmd).toRows.length < 1000 by omega) (by omega)]
      show (bif gives then F25 1000 7 ([] ++ [_]) false _ else F19 1000 2 req _ 7 ([] ++ [_]) true _) = _
      cases gives with
      | true =>
        rw [cond_true, shut5]
        rfl
      | false =>
        rw [cond_false]
        by_cases hq : req = 1
        · subst hq
          have := ended5 (R := Bool) 1000 2 [D.int 0, D.row [], D.row []] 7 [] (M5 7 1 cmd ++ [D.int 1, D.int 0, D.bool false, D.int 0, D.nil, D.nil]) (by simp) (by decide) (by decide)
          refine (this _).trans ?_
          rw [shut5]
          rfl
        · rw [end5 _ _ _ _ _ _ (by simp) _ (by simpa using hq)]
          simp only [cond_false]
          rw [open5]
          · rw [eq_false hq]; rfl
          · simp
          · show (cell 15 cmd).toRows.length ≤ 1000; omega
    · simp
    · show (cell 15 cmd).toRows.length ≤ 1000; omega
end Go.Proofs.Ytdoikghgblohjaa.V

