/- WHAT IS PROVED: the call of CoilRows answers true, and leaves its arguments as they were, at every input that the given row takes. No condition of its own. -/
import Derived.Test.YtdoikghgblohjaaBase4
import Derived.Test.YtdoikghgblohjaaChecked
import Derived.ProofKit
import Derived.KernelRfl
import Derived.Test.YtdoikghgblohjaaRows
set_option linter.unusedVariables false
set_option linter.unusedSimpArgs false

/- What all joins use. -/
namespace Go.Proofs.Ytdoikghgblohjaa
theorem Try.own : ownKnob Try.prog.godebug = none := by kernel_rfl
theorem Try.laidOut : laidOutB Try.prog = true := by kernel_rfl
end Go.Proofs.Ytdoikghgblohjaa

/- Where V's law of function 9 stands, the given row stands. -/
namespace Go.Proofs.Ytdoikghgblohjaa
open Go.ChangeShapes Go.WideShapes Go.ChangeAt Go.RowKit

set_option maxRecDepth 100000 in
theorem rows_lifted (law : V.Law Try.prog 9 Try.f9.params.toList) (os : Os) (started : os.Started) (H : Type) (enc : TypeId × Value → H) :
    ReturnsInHanded {} Try.checked os 9 .any (Rows.coilRowsSpec.pre6 enc Try.prog Try.f9 Rows.coilRowsRow.domain false) (Rows.coilRowsSpec.post enc Try.prog Try.f9 false true false false) := by
  refine V.lift (C := Try.checked) enc Try.own started (by kernel_rfl) Try.func9
    (ChangeSpec.witness6 (enc := enc) (C := Try.checked) false ⟨#[], #[.slice none 0 0], []⟩ 8 (by kernel_rfl) (by kernel_rfl) (by kernel_rfl) (by kernel_rfl)) rfl (fun ds h => ?_) rfl (by kernel_rfl) Try.laidOut (by kernel_rfl) law
  have h : ds.length = 1 := h
  match ds, h with
  | [d1], _ => rfl

theorem rows_join (law : V.Law Try.prog 9 Try.f9.params.toList) : Rows.CoilRowsSaid :=
  OpenClaim.holds_of_wide 9 Try.f9 rfl rfl rfl rfl rfl rfl rfl ⟨rfl, rfl, rfl, rfl, rfl⟩ rfl rfl rfl rfl rfl (by kernel_rfl) Try.func9 (by kernel_rfl)
    (of_decide_eq_true (by kernel_rfl)) (by unfold Func.isWrapper; first | (rw [if_pos (by decide +kernel)]; kernel_rfl) | (rw [if_neg (by decide +kernel)]; exact ⟨rfl, rfl⟩))
    (fun os started H enc _ => rows_lifted law os started H enc)

end Go.Proofs.Ytdoikghgblohjaa

/- Printed by ugen: slices.Clone[[]byte,byte] -/
namespace Go.Proofs.Ytdoikghgblohjaa.V
set_option maxRecDepth 100000

abbrev ft0 : List FT := [FT.int IntKind.u8]

noncomputable def code68 : Code := match Try.f68.body with | some c => c | none => .skip

theorem s68 (fu : Nat) : Tells Try.prog 68 (toldClone ft0 1) :=
  clone_tells (F := (fun _ => none)) (k := 300) (fun _ _ _ h => by cases h) (fun R K => by kernel_rfl) (fun R K es => by kernel_rfl)

noncomputable def tb68 (fu : Nat) : FuncId → Option (Bool × ToldF) := fun f => match Nat.beq f 68 with
  | true => some (false, ghF [.fzP 0 [] ft0] (toldClone ft0 1))
  | false => (fun _ => none) f
theorem tb68_sound (fu : Nat) : SoundF' Try.prog (tb68 fu) := by
  intro f own told h
  unfold tb68 at h
  split at h
  · rename_i hb
    cases h
    have := Nat.eq_of_beq_eq_true hb
    subst this
    exact ghF_sound (s68 fu)
  · exact (fun _ _ _ h => by cases h) f own told h

end Go.Proofs.Ytdoikghgblohjaa.V

/- Printed by ugen: bytes.Equal -/
namespace Go.Proofs.Ytdoikghgblohjaa.V
set_option maxRecDepth 100000


noncomputable def code31 : Code := match Try.f31.body with | some c => c | none => .skip

noncomputable def F31 {R : Type} (fu : Nat) (a : List (List D)) (b : List (List D)) (k0 : Bool → Option R) : Option R :=
  (k0 (strEq (strOf a) (strOf b)))

noncomputable def pc31 (fu : Nat) : Nat → Option ToldP := fun _ => none
noncomputable def t31 (fu : Nat) : ToldF := fun _ args s K => match args, s with
  | [.fz zq0 a false, .fz zq1 b false], [] => (match FT.sames zq0 ft0 with | true => (match FT.sames zq1 ft0 with | true => F31 fu a b (fun o => K (.bool o) []) | false => none) | false => none)
  | _, _ => none

theorem e31 (R : Type) (K : UV → USt → Option R) (fu : Nat) (a : List (List D)) (b : List (List D)) :
    F31 fu a b (fun o => K (.bool o) []) = ufun Try.prog ⟨(tb68 fu), pc31 fu⟩ 300 31 [.fz ft0 a false, .fz ft0 b false] [] (funK 0 [.gc] K) := by kernel_rfl

theorem s31 (fu : Nat) : Tells Try.prog 31 (t31 fu) := by
  refine ufun_sound (T := ⟨(tb68 fu), pc31 fu⟩) (m := 0) (gout := [.gc]) (k := 300) (tb68_sound fu) (fun fn body hf hb => ?_) (fun R args s K r h => ?_) (fun R args s K r h => ?_)
  · have hc : body = code31 := by
      have h1 : Try.prog.funcs[31]? = some Try.f31 := rfl
      rw [h1] at hf; cases hf
      have h2 : Try.f31.body = some code31 := rfl
      rw [h2] at hb; cases hb; rfl
    subst hc
    exact SoundPc.none _ _ _
  · unfold t31 at h; split at h
    · rfl
    · cases h
  · unfold t31 at h; split at h
    case h_2 => cases h
    split at h
    case h_2 => cases h
    rename_i hq
    have hq := FT.sames_eq _ _ hq
    subst hq
    split at h
    case h_2 => cases h
    rename_i hq
    have hq := FT.sames_eq _ _ hq
    subst hq
    exact (e31 R K fu _ _).symm.trans h

noncomputable def tb31 (fu : Nat) : FuncId → Option (Bool × ToldF) := fun f => match Nat.beq f 31 with
  | true => some (false, ghF [.fzP 0 [] ft0, .fzP 1 [] ft0] (t31 fu))
  | false => (tb68 fu) f
theorem tb31_sound (fu : Nat) : SoundF' Try.prog (tb31 fu) := by
  intro f own told h
  unfold tb31 at h
  split at h
  · rename_i hb
    cases h
    have := Nat.eq_of_beq_eq_true hb
    subst this
    exact ghF_sound (s31 fu)
  · exact (tb68_sound fu) f own told h

end Go.Proofs.Ytdoikghgblohjaa.V

/- Printed by ugen: daisychain/coil.Num -/
namespace Go.Proofs.Ytdoikghgblohjaa.V
set_option maxRecDepth 100000


noncomputable def code32 : Code := match Try.f32.body with | some c => c | none => .skip
theorem a32_58 : codeAt code32 58 = some (.loop (loopBody (codeAt code32 58))) := by kernel_rfl
noncomputable def F32_58 {R : Type} (fu : Nat) : Nat → Int → (List (List D)) → (Int → (List (List D)) → Option R) → Option R
  | 0, _, _, _ => none
  | n + 1, n_, out, k0 => bif decide (128 ≤ n_) then bif fits (out.length + 1) 1 then (F32_58 fu n (n_.fdiv (2 ^ min (Int.toNat 7) IntKind.i64.bits)) (out ++ [[D.int (IntKind.u8.wrap ↑(BitVec.ofInt IntKind.u8.bits (IntKind.u8.wrap n_) ||| BitVec.ofInt IntKind.u8.bits 128).toNat)]]) k0) else none else (k0 n_ out)

noncomputable def t32_58 (fu n : Nat) : ToldP := fun _ e s K => match e, s with
  | [.undef, .int .i64 n_, .undef, .undef, .undef, .own 0], [.row zq0 out] => (match FT.sames zq0 ft0 with | true => F32_58 fu n n_ out (fun o o1 => K (.exit 0) [.undef, .int .i64 o, .undef, .undef, .undef, .own 0] [.row ft0 o1]) | false => none)
  | _, _ => none

noncomputable def pc32_58 (fu : Nat) : Nat → Option ToldP := fun _ => none
theorem e32_58 (fu n : Nat) (R : Type) (K : VExit → UEnv → USt → Option R) (n_ : Int) (out : List (List D)) :
    F32_58 fu (n + 1) n_ out (fun o o1 => K (.exit 0) [.undef, .int .i64 o, .undef, .undef, .undef, .own 0] [.row ft0 o1]) = uexec Try.prog (tb31 fu) 300 (pc32_58 fu) 116 (loopBody (codeAt code32 58)) [.undef, .int .i64 n_, .undef, .undef, .undef, .own 0] [.row ft0 out] (loopK 0 [.live [false, true, false, false, false, true], .ownP 5 [] ft0, .gc] [.live [false, true, false, false, true, true], .gc] (t32_58 fu n) K) := by kernel_rfl

theorem p32_58 (fu : Nat) : SoundPc Try.prog 0 code32 (pc32_58 fu) := SoundPc.none _ _ _
theorem s32_58 (fu : Nat) : ∀ n, SoundP Try.prog 0 (.loop (loopBody (codeAt code32 58))) (t32_58 fu n) := by
  refine loop_sound (gin := [.live [false, true, false, false, false, true], .ownP 5 [] ft0, .gc]) (gout := [.live [false, true, false, false, true, true], .gc]) (k := 300) (tb31_sound fu) (p32_58 fu) (by decide) a32_58 (fun R e s K => ?_) (fun n R e s K r h => ?_)
  · unfold t32_58; repeat' split
    all_goals rfl
  · unfold t32_58 at h; split at h
    case h_2 => cases h
    split at h
    case h_2 => cases h
    rename_i hq
    have hq := FT.sames_eq _ _ hq
    subst hq
    exact (e32_58 fu n R K _ _).symm.trans h


noncomputable def F32 {R : Type} (fu : Nat) (b : List (List D)) (n_ : Int) (k0 : (List (List D)) → Option R) : Option R :=
  bif fits b.length 1 then F32_58 fu fu (if 0 > n_ then 0 else n_) b fun o0 o1 => bif fits (o1.length + 1) 1 then (k0 (o1 ++ [[D.int (IntKind.u8.wrap o0)]])) else none else none

noncomputable def pc32 (fu : Nat) : Nat → Option ToldP := fun p => match Nat.beq p 58 with | true => some (ghP 0 [.live [false, true, false, false, false, true], .ownP 5 [] ft0, .gc] (t32_58 fu fu)) | false => none
noncomputable def t32 (fu : Nat) : ToldF := fun _ args s K => match args, s with
  | [.fz zq0 b false, .int .i64 n_], [] => (match FT.sames zq0 ft0 with | true => F32 fu b n_ (fun o => K (.own 0) [.row ft0 o]) | false => none)
  | _, _ => none

theorem e32 (R : Type) (K : UV → USt → Option R) (fu : Nat) (b : List (List D)) (n_ : Int) :
    F32 fu b n_ (fun o => K (.own 0) [.row ft0 o]) = ufun Try.prog ⟨(tb31 fu), pc32 fu⟩ 300 32 [.fz ft0 b false, .int .i64 n_] [] (funK 0 [.gc] K) := by kernel_rfl

theorem s32 (fu : Nat) : Tells Try.prog 32 (t32 fu) := by
  refine ufun_sound (T := ⟨(tb31 fu), pc32 fu⟩) (m := 0) (gout := [.gc]) (k := 300) (tb31_sound fu) (fun fn body hf hb => ?_) (fun R args s K r h => ?_) (fun R args s K r h => ?_)
  · have hc : body = code32 := by
      have h1 : Try.prog.funcs[32]? = some Try.f32 := rfl
      rw [h1] at hf; cases hf
      have h2 : Try.f32.body = some code32 := rfl
      rw [h2] at hb; cases hb; rfl
    subst hc
    exact fun p told h b hb => by
      replace h : pc32 fu p = some told := h
      unfold pc32 at h
      split at h
      · rename_i hp
        cases h
        have := Nat.eq_of_beq_eq_true hp
        subst this
        rw [a32_58] at hb
        cases hb
        exact ghP_sound (s32_58 fu _)
      ·
        cases h

  · unfold t32 at h; split at h
    · rfl
    · cases h
  · unfold t32 at h; split at h
    case h_2 => cases h
    split at h
    case h_2 => cases h
    rename_i hq
    have hq := FT.sames_eq _ _ hq
    subst hq
    exact (e32 R K fu _ _).symm.trans h

noncomputable def tb32 (fu : Nat) : FuncId → Option (Bool × ToldF) := fun f => match Nat.beq f 32 with
  | true => some (false, ghF [.fzP 0 [] ft0] (t32 fu))
  | false => (tb31 fu) f
theorem tb32_sound (fu : Nat) : SoundF' Try.prog (tb32 fu) := by
  intro f own told h
  unfold tb32 at h
  split at h
  · rename_i hb
    cases h
    have := Nat.eq_of_beq_eq_true hb
    subst this
    exact ghF_sound (s32 fu)
  · exact (tb31_sound fu) f own told h

end Go.Proofs.Ytdoikghgblohjaa.V

/- Printed by ugen: daisychain/coil.Text -/
namespace Go.Proofs.Ytdoikghgblohjaa.V
set_option maxRecDepth 100000


noncomputable def code33 : Code := match Try.f33.body with | some c => c | none => .skip

noncomputable def F33 {R : Type} (fu : Nat) (b : List (List D)) (s : ByteArray) (k0 : (List (List D)) → Option R) : Option R :=
  F32 fu b (ofN s.size) fun o0 => bif fits (o0.length + (bytesD s).length) 1 then (k0 (o0 ++ bytesD s)) else none

noncomputable def pc33 (fu : Nat) : Nat → Option ToldP := fun _ => none
noncomputable def t33 (fu : Nat) : ToldF := fun _ args s K => match args, s with
  | [.fz zq0 b false, .str s], [] => (match FT.sames zq0 ft0 with | true => F33 fu b s (fun o => K (.own 0) [.row ft0 o]) | false => none)
  | _, _ => none

theorem e33 (R : Type) (K : UV → USt → Option R) (fu : Nat) (b : List (List D)) (s : ByteArray) :
    F33 fu b s (fun o => K (.own 0) [.row ft0 o]) = ufun Try.prog ⟨(tb32 fu), pc33 fu⟩ 300 33 [.fz ft0 b false, .str s] [] (funK 0 [.gc] K) := by kernel_rfl

theorem s33 (fu : Nat) : Tells Try.prog 33 (t33 fu) := by
  refine ufun_sound (T := ⟨(tb32 fu), pc33 fu⟩) (m := 0) (gout := [.gc]) (k := 300) (tb32_sound fu) (fun fn body hf hb => ?_) (fun R args s K r h => ?_) (fun R args s K r h => ?_)
  · have hc : body = code33 := by
      have h1 : Try.prog.funcs[33]? = some Try.f33 := rfl
      rw [h1] at hf; cases hf
      have h2 : Try.f33.body = some code33 := rfl
      rw [h2] at hb; cases hb; rfl
    subst hc
    exact SoundPc.none _ _ _
  · unfold t33 at h; split at h
    · rfl
    · cases h
  · unfold t33 at h; split at h
    case h_2 => cases h
    split at h
    case h_2 => cases h
    rename_i hq
    have hq := FT.sames_eq _ _ hq
    subst hq
    exact (e33 R K fu _ _).symm.trans h

noncomputable def tb33 (fu : Nat) : FuncId → Option (Bool × ToldF) := fun f => match Nat.beq f 33 with
  | true => some (false, ghF [.fzP 0 [] ft0] (t33 fu))
  | false => (tb32 fu) f
theorem tb33_sound (fu : Nat) : SoundF' Try.prog (tb33 fu) := by
  intro f own told h
  unfold tb33 at h
  split at h
  · rename_i hb
    cases h
    have := Nat.eq_of_beq_eq_true hb
    subst this
    exact ghF_sound (s33 fu)
  · exact (tb32_sound fu) f own told h

end Go.Proofs.Ytdoikghgblohjaa.V

/- Printed by ugen: daisychain/coil.Nums -/
namespace Go.Proofs.Ytdoikghgblohjaa.V
set_option maxRecDepth 100000

abbrev ft1 : List FT := [FT.int IntKind.i64]

noncomputable def code36 : Code := match Try.f36.body with | some c => c | none => .skip
theorem a36_58 : codeAt code36 58 = some (.loop (loopBody (codeAt code36 58))) := by kernel_rfl
noncomputable def F36_58 {R : Type} (fu : Nat) (x : List (List D)) (x1 : Int) : Nat → Int → (List (List D)) → ((List (List D)) → Option R) → Option R
  | 0, _, _, _ => none
  | n + 1, x2, out, k0 => bif decide (x2 < x1) then bif within x2 x.length then F32 fu out (cell 0 (elem x2.toNat x)).toInt fun o0 => (F36_58 fu x x1 n (IntKind.i64.wrap (x2 + 1)) o0 k0) else none else (k0 out)

noncomputable def t36_58 (fu n : Nat) : ToldP := fun _ e s K => match e, s with
  | [.undef, .undef, .undef, .undef, .undef, .own 0, .undef, .undef, .undef, .undef, .undef, .undef, .fz zq0 x false, .int .i64 x1, .int .i64 x2], [.row zq1 out] => (match FT.sames zq0 ft1 with | true => (match FT.sames zq1 ft0 with | true => F36_58 fu x x1 n x2 out (fun o => K (.exit 0) [.undef, .undef, .undef, .undef, .undef, .own 0] [.row ft0 o]) | false => none) | false => none)
  | _, _ => none

noncomputable def pc36_58 (fu : Nat) : Nat → Option ToldP := fun _ => none
theorem e36_58 (fu n : Nat) (R : Type) (K : VExit → UEnv → USt → Option R) (x : List (List D)) (x1 : Int) (x2 : Int) (out : List (List D)) :
    F36_58 fu x x1 (n + 1) x2 out (fun o => K (.exit 0) [.undef, .undef, .undef, .undef, .undef, .own 0] [.row ft0 o]) = uexec Try.prog (tb33 fu) 300 (pc36_58 fu) 116 (loopBody (codeAt code36 58)) [.undef, .undef, .undef, .undef, .undef, .own 0, .undef, .undef, .undef, .undef, .undef, .undef, .fz ft1 x false, .int .i64 x1, .int .i64 x2] [.row ft0 out] (loopK 0 [.live [false, false, false, false, false, true, false, false, false, false, false, false, true, true, true], .ownP 5 [] ft0, .fzP 12 [] ft1, .gc] [.live [false, false, false, false, true, true], .gc] (t36_58 fu n) K) := by kernel_rfl

theorem p36_58 (fu : Nat) : SoundPc Try.prog 0 code36 (pc36_58 fu) := SoundPc.none _ _ _
theorem s36_58 (fu : Nat) : ∀ n, SoundP Try.prog 0 (.loop (loopBody (codeAt code36 58))) (t36_58 fu n) := by
  refine loop_sound (gin := [.live [false, false, false, false, false, true, false, false, false, false, false, false, true, true, true], .ownP 5 [] ft0, .fzP 12 [] ft1, .gc]) (gout := [.live [false, false, false, false, true, true], .gc]) (k := 300) (tb33_sound fu) (p36_58 fu) (by decide) a36_58 (fun R e s K => ?_) (fun n R e s K r h => ?_)
  · unfold t36_58; repeat' split
    all_goals rfl
  · unfold t36_58 at h; split at h
    case h_2 => cases h
    split at h
    case h_2 => cases h
    rename_i hq
    have hq := FT.sames_eq _ _ hq
    subst hq
    split at h
    case h_2 => cases h
    rename_i hq
    have hq := FT.sames_eq _ _ hq
    subst hq
    exact (e36_58 fu n R K _ _ _ _).symm.trans h


noncomputable def F36 {R : Type} (fu : Nat) (b : List (List D)) (l : List (List D)) (k0 : (List (List D)) → Option R) : Option R :=
  F32 fu b (ofN l.length) fun o0 => F36_58 fu l (ofN l.length) fu 0 o0 fun o1 => (k0 o1)

noncomputable def pc36 (fu : Nat) : Nat → Option ToldP := fun p => match Nat.beq p 58 with | true => some (ghP 0 [.live [false, false, false, false, false, true, false, false, false, false, false, false, true, true, true], .ownP 5 [] ft0, .fzP 12 [] ft1, .gc] (t36_58 fu fu)) | false => none
noncomputable def t36 (fu : Nat) : ToldF := fun _ args s K => match args, s with
  | [.fz zq0 b false, .fz zq1 l false], [] => (match FT.sames zq0 ft0 with | true => (match FT.sames zq1 ft1 with | true => F36 fu b l (fun o => K (.own 0) [.row ft0 o]) | false => none) | false => none)
  | _, _ => none

theorem e36 (R : Type) (K : UV → USt → Option R) (fu : Nat) (b : List (List D)) (l : List (List D)) :
    F36 fu b l (fun o => K (.own 0) [.row ft0 o]) = ufun Try.prog ⟨(tb33 fu), pc36 fu⟩ 300 36 [.fz ft0 b false, .fz ft1 l false] [] (funK 0 [.gc] K) := by kernel_rfl

theorem s36 (fu : Nat) : Tells Try.prog 36 (t36 fu) := by
  refine ufun_sound (T := ⟨(tb33 fu), pc36 fu⟩) (m := 0) (gout := [.gc]) (k := 300) (tb33_sound fu) (fun fn body hf hb => ?_) (fun R args s K r h => ?_) (fun R args s K r h => ?_)
  · have hc : body = code36 := by
      have h1 : Try.prog.funcs[36]? = some Try.f36 := rfl
      rw [h1] at hf; cases hf
      have h2 : Try.f36.body = some code36 := rfl
      rw [h2] at hb; cases hb; rfl
    subst hc
    exact fun p told h b hb => by
      replace h : pc36 fu p = some told := h
      unfold pc36 at h
      split at h
      · rename_i hp
        cases h
        have := Nat.eq_of_beq_eq_true hp
        subst this
        rw [a36_58] at hb
        cases hb
        exact ghP_sound (s36_58 fu _)
      ·
        cases h

  · unfold t36 at h; split at h
    · rfl
    · cases h
  · unfold t36 at h; split at h
    case h_2 => cases h
    split at h
    case h_2 => cases h
    rename_i hq
    have hq := FT.sames_eq _ _ hq
    subst hq
    split at h
    case h_2 => cases h
    rename_i hq
    have hq := FT.sames_eq _ _ hq
    subst hq
    exact (e36 R K fu _ _).symm.trans h

noncomputable def tb36 (fu : Nat) : FuncId → Option (Bool × ToldF) := fun f => match Nat.beq f 36 with
  | true => some (false, ghF [.fzP 0 [] ft0, .fzP 1 [] ft1] (t36 fu))
  | false => (tb33 fu) f
theorem tb36_sound (fu : Nat) : SoundF' Try.prog (tb36 fu) := by
  intro f own told h
  unfold tb36 at h
  split at h
  · rename_i hb
    cases h
    have := Nat.eq_of_beq_eq_true hb
    subst this
    exact ghF_sound (s36 fu)
  · exact (tb33_sound fu) f own told h

end Go.Proofs.Ytdoikghgblohjaa.V

/- Printed by ugen: daisychain/daisychainref01.Num -/
namespace Go.Proofs.Ytdoikghgblohjaa.V
set_option maxRecDepth 100000


noncomputable def code34 : Code := match Try.f34.body with | some c => c | none => .skip

noncomputable def F34 {R : Type} (fu : Nat) : Nat → Int → ((List (List D)) → Option R) → Option R
  | 0, _, _ => none
  | n + 1, n_, k0 => bif decide (n_ < 0) then (k0 ([[D.int 0]])) else bif decide (n_ < 128) then (k0 ([[D.int (IntKind.u8.wrap n_)]])) else F34 fu n (IntKind.i64.wrap (n_.tdiv 128)) fun o0 => bif fits (1 + o0.length) 1 then (k0 ([[D.int (IntKind.u8.wrap (IntKind.i64.wrap (128 + n_.tmod 128)))]] ++ o0)) else none

noncomputable def pc34 (fu : Nat) : Nat → Option ToldP := fun _ => none
noncomputable def t34 (fu n : Nat) : ToldF := fun _ args s K => match args, s with
  | [.int .i64 n_], [] => F34 fu n n_ (fun o => K (.own 0) [.row ft0 o])
  | _, _ => none

noncomputable def tbs34 (fu n : Nat) : FuncId → Option (Bool × ToldF) := fun f => match Nat.beq f 34 with
  | true => some (false, ghF [] (t34 fu n))
  | false => (tb36 fu) f
theorem tbs34_sound (fu n : Nat) (ih : Tells Try.prog 34 (t34 fu n)) : SoundF' Try.prog (tbs34 fu n) := by
  intro f own told h
  unfold tbs34 at h
  split at h
  · rename_i hb
    cases h
    have := Nat.eq_of_beq_eq_true hb
    subst this
    exact ghF_sound ih
  · exact (tb36_sound fu) f own told h
theorem e34 (R : Type) (K : UV → USt → Option R) (fu n : Nat) (n_ : Int) :
    F34 fu (n + 1) n_ (fun o => K (.own 0) [.row ft0 o]) = ufun Try.prog ⟨(tbs34 fu n), pc34 fu⟩ 300 34 [.int .i64 n_] [] (funK 0 [.gc] K) := by kernel_rfl

theorem s34 (fu : Nat) : ∀ n, Tells Try.prog 34 (t34 fu n) := by
  intro n
  induction n with
  | zero =>
    intro R args s K r h
    unfold t34 at h
    repeat' split at h
    all_goals first | cases h | (unfold F34 at h; cases h)
  | succ n ih =>
    refine ufun_sound (T := ⟨(tbs34 fu n), pc34 fu⟩) (m := 0) (gout := [.gc]) (k := 300) (tbs34_sound fu n ih) (fun fn body hf hb => ?_) (fun R args s K r h => ?_) (fun R args s K r h => ?_)
    · have hc : body = code34 := by
        have h1 : Try.prog.funcs[34]? = some Try.f34 := rfl
        rw [h1] at hf; cases hf
        have h2 : Try.f34.body = some code34 := rfl
        rw [h2] at hb; cases hb; rfl
      subst hc
      exact SoundPc.none _ _ _
    · unfold t34 at h; split at h
      · rfl
      · cases h
    · unfold t34 at h; split at h
      case h_2 => cases h
      exact (e34 R K fu n _).symm.trans h

noncomputable def tb34 (fu : Nat) : FuncId → Option (Bool × ToldF) := fun f => match Nat.beq f 34 with
  | true => some (false, ghF [] (t34 fu fu))
  | false => (tb36 fu) f
theorem tb34_sound (fu : Nat) : SoundF' Try.prog (tb34 fu) := by
  intro f own told h
  unfold tb34 at h
  split at h
  · rename_i hb
    cases h
    have := Nat.eq_of_beq_eq_true hb
    subst this
    exact ghF_sound (s34 fu fu)
  · exact (tb36_sound fu) f own told h

end Go.Proofs.Ytdoikghgblohjaa.V

/- Printed by ugen: daisychain/daisychainref01.Text -/
namespace Go.Proofs.Ytdoikghgblohjaa.V
set_option maxRecDepth 100000


noncomputable def code35 : Code := match Try.f35.body with | some c => c | none => .skip

noncomputable def F35 {R : Type} (fu : Nat) (s : ByteArray) (k0 : (List (List D)) → Option R) : Option R :=
  F34 fu fu (ofN s.size) fun o0 => bif fits (o0.length + (bytesD s).length) 1 then (k0 (o0 ++ bytesD s)) else none

noncomputable def pc35 (fu : Nat) : Nat → Option ToldP := fun _ => none
noncomputable def t35 (fu : Nat) : ToldF := fun _ args s K => match args, s with
  | [.str s], [] => F35 fu s (fun o => K (.own 0) [.row ft0 o])
  | _, _ => none

theorem e35 (R : Type) (K : UV → USt → Option R) (fu : Nat) (s : ByteArray) :
    F35 fu s (fun o => K (.own 0) [.row ft0 o]) = ufun Try.prog ⟨(tb34 fu), pc35 fu⟩ 300 35 [.str s] [] (funK 0 [.gc] K) := by kernel_rfl

theorem s35 (fu : Nat) : Tells Try.prog 35 (t35 fu) := by
  refine ufun_sound (T := ⟨(tb34 fu), pc35 fu⟩) (m := 0) (gout := [.gc]) (k := 300) (tb34_sound fu) (fun fn body hf hb => ?_) (fun R args s K r h => ?_) (fun R args s K r h => ?_)
  · have hc : body = code35 := by
      have h1 : Try.prog.funcs[35]? = some Try.f35 := rfl
      rw [h1] at hf; cases hf
      have h2 : Try.f35.body = some code35 := rfl
      rw [h2] at hb; cases hb; rfl
    subst hc
    exact SoundPc.none _ _ _
  · unfold t35 at h; split at h
    · rfl
    · cases h
  · unfold t35 at h; split at h
    case h_2 => cases h
    exact (e35 R K fu _).symm.trans h

noncomputable def tb35 (fu : Nat) : FuncId → Option (Bool × ToldF) := fun f => match Nat.beq f 35 with
  | true => some (false, ghF [] (t35 fu))
  | false => (tb34 fu) f
theorem tb35_sound (fu : Nat) : SoundF' Try.prog (tb35 fu) := by
  intro f own told h
  unfold tb35 at h
  split at h
  · rename_i hb
    cases h
    have := Nat.eq_of_beq_eq_true hb
    subst this
    exact ghF_sound (s35 fu)
  · exact (tb34_sound fu) f own told h

end Go.Proofs.Ytdoikghgblohjaa.V

/- Printed by ugen: daisychain/daisychainref01.Nums -/
namespace Go.Proofs.Ytdoikghgblohjaa.V
set_option maxRecDepth 100000


noncomputable def code37 : Code := match Try.f37.body with | some c => c | none => .skip
theorem a37_58 : codeAt code37 58 = some (.loop (loopBody (codeAt code37 58))) := by kernel_rfl
noncomputable def F37_58 {R : Type} (fu : Nat) (l : List (List D)) : Nat → Int → (List (List D)) → ((List (List D)) → Option R) → Option R
  | 0, _, _, _ => none
  | n + 1, i, out, k0 => bif decide (i < ofN l.length) then bif within i l.length then F34 fu fu (cell 0 (elem i.toNat l)).toInt fun o0 => bif fits (out.length + o0.length) 1 then (F37_58 fu l n (IntKind.i64.wrap (i + 1)) (out ++ o0) k0) else none else none else (k0 out)

noncomputable def t37_58 (fu n : Nat) : ToldP := fun _ e s K => match e, s with
  | [.fz zq0 l false, .undef, .undef, .own 0, .int .i64 i], [.row zq1 out] => (match FT.sames zq0 ft1 with | true => (match FT.sames zq1 ft0 with | true => F37_58 fu l n i out (fun o => K (.exit 0) [.undef, .undef, .undef, .own 0] [.row ft0 o]) | false => none) | false => none)
  | _, _ => none

noncomputable def pc37_58 (fu : Nat) : Nat → Option ToldP := fun _ => none
theorem e37_58 (fu n : Nat) (R : Type) (K : VExit → UEnv → USt → Option R) (l : List (List D)) (i : Int) (out : List (List D)) :
    F37_58 fu l (n + 1) i out (fun o => K (.exit 0) [.undef, .undef, .undef, .own 0] [.row ft0 o]) = uexec Try.prog (tb35 fu) 300 (pc37_58 fu) 116 (loopBody (codeAt code37 58)) [.fz ft1 l false, .undef, .undef, .own 0, .int .i64 i] [.row ft0 out] (loopK 0 [.live [true, false, false, true, true], .fzP 0 [] ft1, .ownP 3 [] ft0, .gc] [.live [false, false, true, true], .gc] (t37_58 fu n) K) := by kernel_rfl

theorem p37_58 (fu : Nat) : SoundPc Try.prog 0 code37 (pc37_58 fu) := SoundPc.none _ _ _
theorem s37_58 (fu : Nat) : ∀ n, SoundP Try.prog 0 (.loop (loopBody (codeAt code37 58))) (t37_58 fu n) := by
  refine loop_sound (gin := [.live [true, false, false, true, true], .fzP 0 [] ft1, .ownP 3 [] ft0, .gc]) (gout := [.live [false, false, true, true], .gc]) (k := 300) (tb35_sound fu) (p37_58 fu) (by decide) a37_58 (fun R e s K => ?_) (fun n R e s K r h => ?_)
  · unfold t37_58; repeat' split
    all_goals rfl
  · unfold t37_58 at h; split at h
    case h_2 => cases h
    split at h
    case h_2 => cases h
    rename_i hq
    have hq := FT.sames_eq _ _ hq
    subst hq
    split at h
    case h_2 => cases h
    rename_i hq
    have hq := FT.sames_eq _ _ hq
    subst hq
    exact (e37_58 fu n R K _ _ _).symm.trans h


noncomputable def F37 {R : Type} (fu : Nat) (l : List (List D)) (k0 : (List (List D)) → Option R) : Option R :=
  F34 fu fu (ofN l.length) fun o0 => F37_58 fu l fu 0 o0 fun o1 => (k0 o1)

noncomputable def pc37 (fu : Nat) : Nat → Option ToldP := fun p => match Nat.beq p 58 with | true => some (ghP 0 [.live [true, false, false, true, true], .fzP 0 [] ft1, .ownP 3 [] ft0, .gc] (t37_58 fu fu)) | false => none
noncomputable def t37 (fu : Nat) : ToldF := fun _ args s K => match args, s with
  | [.fz zq0 l false], [] => (match FT.sames zq0 ft1 with | true => F37 fu l (fun o => K (.own 0) [.row ft0 o]) | false => none)
  | _, _ => none

theorem e37 (R : Type) (K : UV → USt → Option R) (fu : Nat) (l : List (List D)) :
    F37 fu l (fun o => K (.own 0) [.row ft0 o]) = ufun Try.prog ⟨(tb35 fu), pc37 fu⟩ 300 37 [.fz ft1 l false] [] (funK 0 [.gc] K) := by kernel_rfl

theorem s37 (fu : Nat) : Tells Try.prog 37 (t37 fu) := by
  refine ufun_sound (T := ⟨(tb35 fu), pc37 fu⟩) (m := 0) (gout := [.gc]) (k := 300) (tb35_sound fu) (fun fn body hf hb => ?_) (fun R args s K r h => ?_) (fun R args s K r h => ?_)
  · have hc : body = code37 := by
      have h1 : Try.prog.funcs[37]? = some Try.f37 := rfl
      rw [h1] at hf; cases hf
      have h2 : Try.f37.body = some code37 := rfl
      rw [h2] at hb; cases hb; rfl
    subst hc
    exact fun p told h b hb => by
      replace h : pc37 fu p = some told := h
      unfold pc37 at h
      split at h
      · rename_i hp
        cases h
        have := Nat.eq_of_beq_eq_true hp
        subst this
        rw [a37_58] at hb
        cases hb
        exact ghP_sound (s37_58 fu _)
      ·
        cases h

  · unfold t37 at h; split at h
    · rfl
    · cases h
  · unfold t37 at h; split at h
    case h_2 => cases h
    split at h
    case h_2 => cases h
    rename_i hq
    have hq := FT.sames_eq _ _ hq
    subst hq
    exact (e37 R K fu _).symm.trans h

noncomputable def tb37 (fu : Nat) : FuncId → Option (Bool × ToldF) := fun f => match Nat.beq f 37 with
  | true => some (false, ghF [.fzP 0 [] ft1] (t37 fu))
  | false => (tb35 fu) f
theorem tb37_sound (fu : Nat) : SoundF' Try.prog (tb37 fu) := by
  intro f own told h
  unfold tb37 at h
  split at h
  · rename_i hb
    cases h
    have := Nat.eq_of_beq_eq_true hb
    subst this
    exact ghF_sound (s37 fu)
  · exact (tb35_sound fu) f own told h

end Go.Proofs.Ytdoikghgblohjaa.V

/- Printed by ugen: daisychain/daisychainlaw01.awake -/
namespace Go.Proofs.Ytdoikghgblohjaa.V
set_option maxRecDepth 100000


noncomputable def code30 : Code := match Try.f30.body with | some c => c | none => .skip

noncomputable def F30 {R : Type} (fu : Nat) (k0 : Option R) : Option R :=
  (k0)

noncomputable def pc30 (fu : Nat) : Nat → Option ToldP := fun _ => none
noncomputable def t30 (fu : Nat) : ToldF := fun _ args s K => match args, s with
  | [], [] => F30 fu  (K (.bool (true)) [])
  | _, _ => none

theorem e30 (R : Type) (K : UV → USt → Option R) (fu : Nat) :
    F30 fu  (K (.bool (true)) []) = ufun Try.prog ⟨(tb68 fu), pc30 fu⟩ 300 30 [] [] (funK 0 [.gc] K) := by kernel_rfl

theorem s30 (fu : Nat) : Tells Try.prog 30 (t30 fu) := by
  refine ufun_sound (T := ⟨(tb68 fu), pc30 fu⟩) (m := 0) (gout := [.gc]) (k := 300) (tb68_sound fu) (fun fn body hf hb => ?_) (fun R args s K r h => ?_) (fun R args s K r h => ?_)
  · have hc : body = code30 := by
      have h1 : Try.prog.funcs[30]? = some Try.f30 := rfl
      rw [h1] at hf; cases hf
      have h2 : Try.f30.body = some code30 := rfl
      rw [h2] at hb; cases hb; rfl
    subst hc
    exact SoundPc.none _ _ _
  · unfold t30 at h; split at h
    · rfl
    · cases h
  · unfold t30 at h; split at h
    case h_2 => cases h
    exact (e30 R K fu).symm.trans h

noncomputable def tb30 (fu : Nat) : FuncId → Option (Bool × ToldF) := fun f => match Nat.beq f 30 with
  | true => some (false, ghF [] (t30 fu))
  | false => (tb37 fu) f
theorem tb30_sound (fu : Nat) : SoundF' Try.prog (tb30 fu) := by
  intro f own told h
  unfold tb30 at h
  split at h
  · rename_i hb
    cases h
    have := Nat.eq_of_beq_eq_true hb
    subst this
    exact ghF_sound (s30 fu)
  · exact (tb37_sound fu) f own told h

end Go.Proofs.Ytdoikghgblohjaa.V

/- Printed by ugen: daisychain/daisychainlaw01.CoilApart -/
namespace Go.Proofs.Ytdoikghgblohjaa.V
set_option maxRecDepth 100000


noncomputable def code7 : Code := match Try.f7.body with | some c => c | none => .skip

noncomputable def F7 {R : Type} (fu : Nat) (n_ : Int) (m : Int) (s : ByteArray) (t : ByteArray) (k0 : Bool → Option R) : Option R :=
  bif decide (400 < ofN s.size) then F30 fu ((k0 true)) else bif decide (400 < ofN t.size) then F30 fu ((k0 true)) else F32 fu [] n_ fun o0 => F32 fu [] m fun o1 => F31 fu o0 o1 fun o2 => F33 fu [] s fun o3 => F33 fu [] t fun o4 => F31 fu o3 o4 fun o5 => bif o2 == decide ((if 0 > n_ then 0 else n_) = if 0 > m then 0 else m) then bif o5 == strEq s t then F30 fu ((k0 true)) else (k0 false) else (k0 false)

noncomputable def pc7 (fu : Nat) : Nat → Option ToldP := fun _ => none
noncomputable def t7 (fu : Nat) : ToldF := fun _ args s K => match args, s with
  | [.int .i64 n_, .int .i64 m, .str s, .str t], [] => F7 fu n_ m s t (fun o => K (.bool o) [])
  | _, _ => none

theorem e7 (R : Type) (K : UV → USt → Option R) (fu : Nat) (n_ : Int) (m : Int) (s : ByteArray) (t : ByteArray) :
    F7 fu n_ m s t (fun o => K (.bool o) []) = ufun Try.prog ⟨(tb30 fu), pc7 fu⟩ 300 7 [.int .i64 n_, .int .i64 m, .str s, .str t] [] (funK 0 [.gc] K) := by kernel_rfl

theorem s7 (fu : Nat) : Tells Try.prog 7 (t7 fu) := by
  refine ufun_sound (T := ⟨(tb30 fu), pc7 fu⟩) (m := 0) (gout := [.gc]) (k := 300) (tb30_sound fu) (fun fn body hf hb => ?_) (fun R args s K r h => ?_) (fun R args s K r h => ?_)
  · have hc : body = code7 := by
      have h1 : Try.prog.funcs[7]? = some Try.f7 := rfl
      rw [h1] at hf; cases hf
      have h2 : Try.f7.body = some code7 := rfl
      rw [h2] at hb; cases hb; rfl
    subst hc
    exact SoundPc.none _ _ _
  · unfold t7 at h; split at h
    · rfl
    · cases h
  · unfold t7 at h; split at h
    case h_2 => cases h
    exact (e7 R K fu _ _ _ _).symm.trans h

noncomputable def tb7 (fu : Nat) : FuncId → Option (Bool × ToldF) := fun f => match Nat.beq f 7 with
  | true => some (false, ghF [] (t7 fu))
  | false => (tb30 fu) f
theorem tb7_sound (fu : Nat) : SoundF' Try.prog (tb7 fu) := by
  intro f own told h
  unfold tb7 at h
  split at h
  · rename_i hb
    cases h
    have := Nat.eq_of_beq_eq_true hb
    subst this
    exact ghF_sound (s7 fu)
  · exact (tb30_sound fu) f own told h

end Go.Proofs.Ytdoikghgblohjaa.V

/- Printed by ugen: daisychain/daisychainlaw01.CoilRows -/
namespace Go.Proofs.Ytdoikghgblohjaa.V
set_option maxRecDepth 100000


noncomputable def code9 : Code := match Try.f9.body with | some c => c | none => .skip
theorem a9_122 : codeAt code9 122 = some (.loop (loopBody (codeAt code9 122))) := by kernel_rfl
noncomputable def F9_122 {R : Type} (fu : Nat) (x : List (List D)) (x1 : Int) : Nat → Int → (List (List D)) → ((List (List D)) → Option R) → Option R
  | 0, _, _, _ => none
  | n + 1, x2, b, k0 => bif decide (x2 < x1) then bif within x2 x.length then F32 fu b (cell 0 (elem x2.toNat x)).toInt fun o0 => (F9_122 fu x x1 n (IntKind.i64.wrap (x2 + 1)) o0 k0) else none else (k0 b)

noncomputable def t9_122 (fu n : Nat) : ToldP := fun _ e s K => match e, s with
  | [.fz zq0 l false, .undef, .undef, .own 0, .undef, .undef, .undef, .undef, .undef, .undef, .undef, .undef, .undef, .fz zq1 x false, .int .i64 x1, .int .i64 x2], [.row zq2 b] => (match FT.sames zq0 ft1 with | true => (match FT.sames zq1 ft1 with | true => (match FT.sames zq2 ft0 with | true => F9_122 fu x x1 n x2 b (fun o => K (.exit 0) [.fz ft1 (l) false, .undef, .undef, .own 0] [.row ft0 o]) | false => none) | false => none) | false => none)
  | _, _ => none

noncomputable def pc9_122 (fu : Nat) : Nat → Option ToldP := fun _ => none
theorem e9_122 (fu n : Nat) (R : Type) (K : VExit → UEnv → USt → Option R) (l : List (List D)) (x : List (List D)) (x1 : Int) (x2 : Int) (b : List (List D)) :
    F9_122 fu x x1 (n + 1) x2 b (fun o => K (.exit 0) [.fz ft1 (l) false, .undef, .undef, .own 0] [.row ft0 o]) = uexec Try.prog (tb7 fu) 300 (pc9_122 fu) 244 (loopBody (codeAt code9 122)) [.fz ft1 l false, .undef, .undef, .own 0, .undef, .undef, .undef, .undef, .undef, .undef, .undef, .undef, .undef, .fz ft1 x false, .int .i64 x1, .int .i64 x2] [.row ft0 b] (loopK 0 [.live [true, false, false, true, false, false, false, false, false, false, false, false, false, true, true, true], .fzP 0 [] ft1, .ownP 3 [] ft0, .fzP 13 [] ft1, .gc] [.live [true, false, true, true], .gc] (t9_122 fu n) K) := by kernel_rfl

theorem p9_122 (fu : Nat) : SoundPc Try.prog 0 code9 (pc9_122 fu) := SoundPc.none _ _ _
theorem s9_122 (fu : Nat) : ∀ n, SoundP Try.prog 0 (.loop (loopBody (codeAt code9 122))) (t9_122 fu n) := by
  refine loop_sound (gin := [.live [true, false, false, true, false, false, false, false, false, false, false, false, false, true, true, true], .fzP 0 [] ft1, .ownP 3 [] ft0, .fzP 13 [] ft1, .gc]) (gout := [.live [true, false, true, true], .gc]) (k := 300) (tb7_sound fu) (p9_122 fu) (by decide) a9_122 (fun R e s K => ?_) (fun n R e s K r h => ?_)
  · unfold t9_122; repeat' split
    all_goals rfl
  · unfold t9_122 at h; split at h
    case h_2 => cases h
    split at h
    case h_2 => cases h
    rename_i hq
    have hq := FT.sames_eq _ _ hq
    subst hq
    split at h
    case h_2 => cases h
    rename_i hq
    have hq := FT.sames_eq _ _ hq
    subst hq
    split at h
    case h_2 => cases h
    rename_i hq
    have hq := FT.sames_eq _ _ hq
    subst hq
    exact (e9_122 fu n R K _ _ _ _ _).symm.trans h


noncomputable def F9 {R : Type} (fu : Nat) (l : List (List D)) (k0 : Bool → Option R) : Option R :=
  bif decide (400 < ofN l.length) then F30 fu ((k0 true)) else F32 fu [] (ofN l.length) fun o0 => F9_122 fu l (ofN l.length) fu 0 o0 fun o1 => F36 fu [] l fun o2 => F31 fu o2 o1 fun o3 => bif o3 then F30 fu ((k0 true)) else (k0 false)

noncomputable def pc9 (fu : Nat) : Nat → Option ToldP := fun p => match Nat.beq p 122 with | true => some (ghP 0 [.live [true, false, false, true, false, false, false, false, false, false, false, false, false, true, true, true], .fzP 0 [] ft1, .ownP 3 [] ft0, .fzP 13 [] ft1, .gc] (t9_122 fu fu)) | false => none
noncomputable def t9 (fu : Nat) : ToldF := fun _ args s K => match args, s with
  | [.fz zq0 l false], [] => (match FT.sames zq0 ft1 with | true => F9 fu l (fun o => K (.bool o) []) | false => none)
  | _, _ => none

theorem e9 (R : Type) (K : UV → USt → Option R) (fu : Nat) (l : List (List D)) :
    F9 fu l (fun o => K (.bool o) []) = ufun Try.prog ⟨(tb7 fu), pc9 fu⟩ 300 9 [.fz ft1 l false] [] (funK 0 [.gc] K) := by kernel_rfl

theorem s9 (fu : Nat) : Tells Try.prog 9 (t9 fu) := by
  refine ufun_sound (T := ⟨(tb7 fu), pc9 fu⟩) (m := 0) (gout := [.gc]) (k := 300) (tb7_sound fu) (fun fn body hf hb => ?_) (fun R args s K r h => ?_) (fun R args s K r h => ?_)
  · have hc : body = code9 := by
      have h1 : Try.prog.funcs[9]? = some Try.f9 := rfl
      rw [h1] at hf; cases hf
      have h2 : Try.f9.body = some code9 := rfl
      rw [h2] at hb; cases hb; rfl
    subst hc
    exact fun p told h b hb => by
      replace h : pc9 fu p = some told := h
      unfold pc9 at h
      split at h
      · rename_i hp
        cases h
        have := Nat.eq_of_beq_eq_true hp
        subst this
        rw [a9_122] at hb
        cases hb
        exact ghP_sound (s9_122 fu _)
      ·
        cases h

  · unfold t9 at h; split at h
    · rfl
    · cases h
  · unfold t9 at h; split at h
    case h_2 => cases h
    split at h
    case h_2 => cases h
    rename_i hq
    have hq := FT.sames_eq _ _ hq
    subst hq
    exact (e9 R K fu _).symm.trans h

noncomputable def tb9 (fu : Nat) : FuncId → Option (Bool × ToldF) := fun f => match Nat.beq f 9 with
  | true => some (false, ghF [.fzP 0 [] ft1] (t9 fu))
  | false => (tb7 fu) f
theorem tb9_sound (fu : Nat) : SoundF' Try.prog (tb9 fu) := by
  intro f own told h
  unfold tb9 at h
  split at h
  · rename_i hb
    cases h
    have := Nat.eq_of_beq_eq_true hb
    subst this
    exact ghF_sound (s9 fu)
  · exact (tb7_sound fu) f own told h

end Go.Proofs.Ytdoikghgblohjaa.V

/- From the plain law of function 9 to V's. -/
namespace Go.Proofs.Ytdoikghgblohjaa.V

theorem law9 (fu : Nat) (H : ∀ (ds1 : List D), WFDs [FT.row 8 [FT.int IntKind.i64]] ds1 → F9 fu ((cell 0 ds1).toRows) (fun o => some o) = some true) : Law Try.prog 9 Try.f9.params.toList := by
  refine law_of_told (by kernel_rfl) (by kernel_rfl) (s9 fu) (fun dss hw => ?_)
  have hts : Try.f9.params.toList = [27] := rfl
  rw [hts] at hw
  cases hw with
  | cons t1 ts1 fts1 ds1 dss1 hf1 hd1 hr1 =>
    have e1 : flat Try.prog 20 27 = some [FT.row 8 [FT.int IntKind.i64]] := by kernel_rfl
    rw [e1] at hf1; cases hf1
    cases hr1
    have h1 : t9 fu Bool (argsU Try.prog Try.f9.params.toList [ds1]) [] boolK = F9 fu ((cell 0 ds1).toRows) (fun o => some o) := by kernel_rfl
    exact h1.trans (H ds1 hd1)
end Go.Proofs.Ytdoikghgblohjaa.V

/- Words that all plain proofs use. -/
namespace Go.Proofs.Ytdoikghgblohjaa.V

theorem wrap_of {x : Int} (h0 : -9223372036854775808 ≤ x) (h1 : x ≤ 9223372036854775807) : IntKind.i64.wrap x = x := by
  rw [IntKind.wrap_i64]; omega

theorem wrap_succ {i : Nat} (h : i ≤ 9223372036854775806) : IntKind.i64.wrap ((i : Int) + 1) = ((i + 1 : Nat) : Int) := by rw [wrap_of (by omega) (by omega)]; rfl

theorem fits_of {n b : Nat} (hn : n ≤ 1000000) (hb : b ≤ 1000) : fits n b = true := by
  unfold fits maxBytes
  have : n * b ≤ 1000000 * 1000 := Nat.mul_le_mul hn hb
  exact decide_eq_true ⟨by omega, by omega⟩

theorem within_of {j n : Nat} (h : j < n) : within (j : Int) n = true := by
  unfold within; exact decide_eq_true ⟨by omega, by omega⟩

theorem within_int {j : Int} {n : Nat} (h0 : 0 ≤ j) (h : j < n) : within j n = true := by
  unfold within; exact decide_eq_true ⟨h0, by omega⟩

theorem lt_true {a b : Int} (h : a < b) : decide (a < b) = true := decide_eq_true h
theorem lt_false {a b : Int} (h : ¬ a < b) : decide (a < b) = false := decide_eq_false h
theorem le_true {a b : Int} (h : a ≤ b) : decide (a ≤ b) = true := decide_eq_true h
theorem le_false {a b : Int} (h : ¬ a ≤ b) : decide (a ≤ b) = false := decide_eq_false h
theorem eq_true {a b : Int} (h : a = b) : decide (a = b) = true := decide_eq_true h
theorem eq_false {a b : Int} (h : ¬ a = b) : decide (a = b) = false := decide_eq_false h

theorem strEq_refl (x : ByteArray) : strEq x x = true := by simp [strEq]

theorem elem_mem {i : Nat} {l : List (List D)} (h : i < l.length) : elem i l ∈ l := by
  unfold elem
  rw [List.getD_eq_getElem?_getD, List.getElem?_eq_getElem h]
  exact List.getElem_mem h

/-- Sizes of data as it comes. -/
theorem WFD.rows_len {bytes : Nat} {fts : List FT} {d : D} (h : WFD (.row bytes fts) d) : d.toRows.length * bytes ≤ reachBytes := by
  cases h with
  | nil => simp [D.toRows]
  | row _ _ rows hb hl hr => simp only [D.toRows]; first | exact hb | (simpa using hb)

theorem WFD.str_len {d : D} (h : WFD .str d) : d.toStr.size ≤ reachBytes := by
  cases h with
  | str s h => exact h

theorem WFD.rows {bytes : Nat} {fts : List FT} {d : D} (h : WFD (.row bytes fts) d) : ∀ r ∈ d.toRows, WFDs fts r := by
  cases h with
  | nil => intro r hr; cases hr
  | row _ _ rows hb hl hr =>
    intro r hm
    refine ⟨hl r hm, fun j ft d h1 h2 => hr r hm j ft d h1 h2⟩

theorem WFDs.cell {fts : List FT} {ds : List D} (h : WFDs fts ds) {j : Nat} {ft : FT} (hj : fts[j]? = some ft) : WFD ft (V.cell j ds) := by
  have hlt : j < ds.length := by rw [h.len]; exact (List.getElem?_eq_some_iff.1 hj).1
  have hd := List.getElem?_eq_getElem hlt
  unfold V.cell
  rw [List.getD_eq_getElem?_getD, hd]
  exact h.at_ j ft _ hj hd

theorem reach_lt : reachBytes < 140737488355328 := by decide

end Go.Proofs.Ytdoikghgblohjaa.V

/- Numbers as bytes: plain laws. -/
namespace Go.Proofs.Ytdoikghgblohjaa.V

/-- A number's bytes. -/
def numL (m : Nat) : List Nat := if m < 128 then [m] else (m % 128 + 128) :: numL (m / 128)
termination_by m
decreasing_by omega

def initL (m : Nat) : List Nat := if m < 128 then [] else (m % 128 + 128) :: initL (m / 128)
termination_by m
decreasing_by omega

def lastL (m : Nat) : Nat := if m < 128 then m else lastL (m / 128)
termination_by m
decreasing_by omega

theorem numL_eq (m : Nat) : numL m = initL m ++ [lastL m] := by
  induction m using Nat.strongRecOn with
  | ind m ih =>
    rw [numL, initL, lastL]
    split
    · rfl
    · rw [ih (m / 128) (by omega)]; rfl

theorem lastL_lt (m : Nat) : lastL m < 128 := by
  induction m using Nat.strongRecOn with
  | ind m ih =>
    rw [lastL]
    split
    · assumption
    · exact ih (m / 128) (by omega)

theorem numL_lt (m : Nat) : ∀ c ∈ numL m, c < 256 := by
  induction m using Nat.strongRecOn with
  | ind m ih =>
    rw [numL]
    split
    · intro c hc; simp only [List.mem_singleton] at hc; omega
    · intro c hc
      rcases List.mem_cons.1 hc with rfl | hc
      · omega
      · exact ih (m / 128) (by omega) c hc

theorem numL_len (n : Nat) : ∀ m, m < 128 ^ (n + 1) → (numL m).length ≤ n + 1 := by
  induction n with
  | zero => intro m h; rw [numL, if_pos (by simpa using h)]; simp
  | succ n ih =>
    intro m h
    rw [numL]
    split
    · simp
    · have : m / 128 < 128 ^ (n + 1) := Nat.div_lt_of_lt_mul (by rw [Nat.pow_succ] at h; omega)
      have := ih (m / 128) this
      simp only [List.length_cons]; omega

theorem numL_len10 {m : Nat} (h : m < 9223372036854775808) : (numL m).length ≤ 10 := by
  have := numL_len 9 m (by simp; omega)
  omega

/-- No number's bytes begin another's. -/
theorem numL_free : ∀ (a b : Nat) (x y : List Nat), numL a ++ x = numL b ++ y → a = b ∧ x = y := by
  intro a
  induction a using Nat.strongRecOn with
  | ind a ih =>
    intro b x y h
    rw [numL, numL.eq_1 b] at h
    split at h <;> split at h
    · simp only [List.cons_append, List.nil_append, List.cons.injEq] at h; exact h
    · simp only [List.cons_append, List.nil_append, List.cons.injEq] at h; omega
    · simp only [List.cons_append, List.nil_append, List.cons.injEq] at h; omega
    · simp only [List.cons_append, List.cons.injEq] at h
      obtain ⟨h1, h2⟩ := ih (a / 128) (by omega) (b / 128) x y h.2
      exact ⟨by omega, h2⟩

theorem numL_inj {a b : Nat} (h : numL a = numL b) : a = b := (numL_free a b [] [] (by rw [List.append_nil, List.append_nil]; exact h)).1

/-- Bytes, as rows. -/
def byD (l : List Nat) : List (List D) := l.map fun (c : Nat) => [D.int (c : Int)]

theorem byD_len (l : List Nat) : (byD l).length = l.length := by simp [byD]
theorem byD_append (a b : List Nat) : byD (a ++ b) = byD a ++ byD b := by simp [byD]

def strL (s : ByteArray) : List Nat := s.data.toList.map (·.toNat)

theorem bytesD_eq (s : ByteArray) : bytesD s = byD (strL s) := by
  unfold bytesD byD strL
  rw [List.map_map]; rfl

theorem strL_len (s : ByteArray) : (strL s).length = s.size := by simp [strL]
theorem bytesD_len (s : ByteArray) : (bytesD s).length = s.size := by rw [bytesD_eq, byD_len, strL_len]

theorem strL_lt (s : ByteArray) : ∀ c ∈ strL s, c < 256 := by
  intro c hc
  unfold strL at hc
  obtain ⟨u, _, rfl⟩ := List.mem_map.1 hc
  exact u.toNat_lt

theorem strL_inj {s t : ByteArray} (h : strL s = strL t) : s = t := by
  unfold strL at h
  have h2 : s.data.toList = t.data.toList := (List.map_inj_right (fun a b e => UInt8.toNat_inj.1 e)).1 h
  cases s; cases t
  congr
  exact Array.toList_inj.1 h2

theorem strOf_byD {l : List Nat} (h : ∀ c ∈ l, c < 256) : strL (strOf (byD l)) = l := by
  unfold strOf byD strL
  simp only [List.map_map]
  conv => rhs; rw [← List.map_id l]
  apply List.map_congr_left
  intro c hc
  simp only [Function.comp, byteOf, cell, List.getD_eq_getElem?_getD, List.getElem?_cons_zero, Option.getD_some, D.toInt, Int.toNat_natCast, id_eq]
  rw [UInt8.toNat_ofNat']
  exact Nat.mod_eq_of_lt (h c hc)

theorem strEq_iff (s t : ByteArray) : strEq s t = decide (strL s = strL t) := by
  unfold strEq
  by_cases h : s = t
  · subst h; simp
  · rw [decide_eq_false (fun e => h (strL_inj e))]
    have : ¬ s.toList = t.toList := by
      intro e
      apply h
      cases s; cases t
      congr
      have := e
      simp only [ByteArray.toList_eq] at this
      exact Array.toList_inj.1 this
    simpa using this

theorem strEq_byD {a b : List Nat} (ha : ∀ c ∈ a, c < 256) (hb : ∀ c ∈ b, c < 256) : strEq (strOf (byD a)) (strOf (byD b)) = decide (a = b) := by
  rw [strEq_iff, strOf_byD ha, strOf_byD hb]

/-- A number, as the program has it: none is below 0. -/
def natOfI (n : Int) : Nat := (if 0 > n then 0 else n).toNat

theorem natOfI_eq (n : Int) : (if 0 > n then 0 else n) = (natOfI n : Int) := by
  unfold natOfI; split <;> omega

theorem or128 : ∀ j : Fin 256, (BitVec.ofInt 8 ((j.val : Nat) : Int) ||| BitVec.ofInt 8 128).toNat = j.val % 128 + 128 := by decide +kernel

theorem wrap8_small {m : Nat} (h : m < 256) : IntKind.u8.wrap (m : Int) = m := by
  rw [IntKind.wrap_u8]; omega

theorem wrap8_or (m : Nat) : IntKind.u8.wrap ↑(BitVec.ofInt IntKind.u8.bits (IntKind.u8.wrap (m : Int)) ||| BitVec.ofInt IntKind.u8.bits 128).toNat = ((m % 128 + 128 : Nat) : Int) := by
  have h1 : IntKind.u8.wrap (m : Int) = ((m % 256 : Nat) : Int) := by rw [IntKind.wrap_u8]; omega
  rw [h1, show IntKind.u8.bits = 8 from rfl, or128 ⟨m % 256, Nat.mod_lt _ (by omega)⟩]
  show IntKind.u8.wrap ((m % 256 % 128 + 128 : Nat) : Int) = _
  rw [wrap8_small (by omega)]
  omega

theorem fdiv128 (m : Nat) : (m : Int).fdiv (2 ^ min (Int.toNat 7) IntKind.i64.bits) = ((m / 128 : Nat) : Int) := by
  have h : (2 : Int) ^ min (Int.toNat 7) IntKind.i64.bits = 128 := by decide
  rw [h, Int.fdiv_eq_ediv_of_nonneg _ (by omega)]
  omega
end Go.Proofs.Ytdoikghgblohjaa.V

/- coil: what Num, Text, Nums write. -/
namespace Go.Proofs.Ytdoikghgblohjaa.V
variable {R : Type}

theorem byD_cons (c : Nat) (l : List Nat) : byD (c :: l) = [D.int (c : Int)] :: byD l := rfl

theorem num_loop (fu : Nat) (k : Int → List (List D) → Option R) : ∀ (n m : Nat) (out : List (List D)), m < 128 ^ (n + 1) → m < 9223372036854775808 → out.length + (initL m).length ≤ 900000 →
    F32_58 fu (n + 1) (m : Int) out k = k (lastL m : Int) (out ++ byD (initL m)) := by
  intro n
  induction n with
  | zero =>
    intro m out h h2 h3
    unfold F32_58
    rw [le_false (show ¬ (128 : Int) ≤ m by omega), cond_false]
    rw [lastL, initL, if_pos (by omega), if_pos (by omega)]
    simp [byD]
  | succ n ih =>
    intro m out h h2 h3
    unfold F32_58
    by_cases hm : m < 128
    · rw [le_false (show ¬ (128 : Int) ≤ m by omega), cond_false]
      rw [lastL, initL, if_pos (by omega), if_pos (by omega)]
      simp [byD]
    · rw [le_true (show (128 : Int) ≤ m by omega), cond_true, fits_of (by rw [initL, if_neg hm] at h3; simp at h3; omega) (by omega), cond_true, fdiv128, wrap8_or]
      rw [ih (m / 128) _ (Nat.div_lt_of_lt_mul (by rw [Nat.pow_succ] at h; omega)) (by omega) (by rw [initL, if_neg hm] at h3; simp at h3 ⊢; omega)]
      rw [lastL.eq_1 m, initL.eq_1 m, if_neg hm, if_neg hm, byD_cons, List.append_assoc]
      rfl

/-- Num writes a number's bytes. -/
theorem num_ok (fu : Nat) (hfu : 10 ≤ fu) (b : List (List D)) (n : Int) (hb : b.length ≤ 800000) (hn : n ≤ 9223372036854775807) (k : List (List D) → Option R) :
    F32 fu b n k = k (b ++ byD (numL (natOfI n))) := by
  unfold F32
  have hlt : natOfI n < 9223372036854775808 := by unfold natOfI; split <;> omega
  obtain ⟨f, rfl⟩ : ∃ f, fu = f + 10 := ⟨fu - 10, by omega⟩
  rw [fits_of (by omega) (by omega), cond_true, natOfI_eq]
  have hpow : natOfI n < 128 ^ ((f + 9) + 1) := by
    have : 128 ^ 10 ≤ 128 ^ ((f + 9) + 1) := Nat.pow_le_pow_right (by omega) (by omega)
    have : natOfI n < 128 ^ 10 := by omega
    omega
  have hl := numL_len10 hlt
  rw [numL_eq, List.length_append, List.length_singleton] at hl
  have := num_loop (f + 10) (fun o0 o1 => bif fits (o1.length + 1) 1 then (k (o1 ++ [[D.int (IntKind.u8.wrap o0)]])) else none) (f + 9) (natOfI n) b hpow hlt (by omega)
  refine this.trans ?_
  rw [fits_of (by rw [List.length_append, byD_len]; omega) (by omega), cond_true, wrap8_small (by have := lastL_lt (natOfI n); omega), numL_eq, byD_append, List.append_assoc]
  rfl

theorem text_ok (fu : Nat) (hfu : 10 ≤ fu) (b : List (List D)) (s : ByteArray) (hb : b.length ≤ 400000) (hs : s.size ≤ 400000) (k : List (List D) → Option R) :
    F33 fu b s k = k (b ++ byD (numL s.size) ++ byD (strL s)) := by
  unfold F33
  have h1 := numL_len10 (m := s.size) (by omega)
  have h2 : natOfI (ofN s.size) = s.size := by unfold natOfI ofN; split <;> omega
  rw [num_ok fu hfu b _ (by omega) (by unfold ofN; omega), h2, bytesD_len, fits_of (by rw [List.length_append, byD_len]; omega) (by omega), cond_true, bytesD_eq]

/-- A row's numbers. -/
def natsOf (l : List (List D)) : List Nat := l.map fun r => natOfI (cell 0 r).toInt

def numsL (l : List Nat) : List Nat := (l.map numL).flatten

theorem nums_loop (fu : Nat) (hfu : 10 ≤ fu) (l : List (List D)) (hl : l.length ≤ 10000) (hi : ∀ r ∈ l, (cell 0 r).toInt ≤ 9223372036854775807) (k : List (List D) → Option R) :
    ∀ (n i : Nat) (out : List (List D)), l.length + 1 ≤ i + n → i ≤ l.length → out.length + 10 * (l.length - i) ≤ 800000 →
      F36_58 fu l (ofN l.length) n (i : Int) out k = k (out ++ byD (numsL (natsOf (l.drop i)))) := by
  intro n
  induction n with
  | zero => intro i out h1 h2; omega
  | succ n ih =>
    intro i out h1 h2 h3
    unfold F36_58
    by_cases hlt : i < l.length
    · rw [lt_true (show (i : Int) < ofN l.length by unfold ofN; omega), cond_true, within_of hlt, cond_true, wrap_succ (by omega), Int.toNat_natCast]
      have he : elem i l = l[i] := by unfold elem; rw [List.getD_eq_getElem?_getD, List.getElem?_eq_getElem hlt]; rfl
      have hn := hi l[i] (List.getElem_mem hlt)
      have hlen := numL_len10 (m := natOfI (cell 0 l[i]).toInt) (by unfold natOfI; split <;> omega)
      rw [he, num_ok fu hfu out _ (by omega) hn, ih (i + 1) _ (by omega) (by omega) (by rw [List.length_append, byD_len]; omega)]
      rw [List.drop_eq_getElem_cons hlt]
      simp only [natsOf, List.map_cons, numsL, List.flatten_cons, byD_append, List.append_assoc]
    · rw [lt_false (show ¬ (i : Int) < ofN l.length by unfold ofN; omega), cond_false, List.drop_eq_nil_of_le (by omega)]
      simp [natsOf, numsL, byD]

theorem nums_ok (fu : Nat) (hfu : 10 ≤ fu) (b l : List (List D)) (hb : b.length ≤ 400000) (hl : l.length ≤ 10000) (hf : l.length < fu) (hi : ∀ r ∈ l, (cell 0 r).toInt ≤ 9223372036854775807) (k : List (List D) → Option R) :
    F36 fu b l k = k (b ++ byD (numL l.length) ++ byD (numsL (natsOf l))) := by
  unfold F36
  have h1 := numL_len10 (m := l.length) (by omega)
  have h2 : natOfI (ofN l.length) = l.length := by unfold natOfI ofN; split <;> omega
  rw [num_ok fu hfu b _ (by omega) (by unfold ofN; omega), h2]
  have := nums_loop fu hfu l hl hi k fu 0 (b ++ byD (numL l.length)) (by omega) (by omega) (by rw [List.length_append, byD_len]; omega)
  exact this
end Go.Proofs.Ytdoikghgblohjaa.V

/- Printed by ugen: daisychain/daisychainlaw01.CoilWrites -/
namespace Go.Proofs.Ytdoikghgblohjaa.V
set_option maxRecDepth 100000


noncomputable def code8 : Code := match Try.f8.body with | some c => c | none => .skip

noncomputable def F8 {R : Type} (fu : Nat) (b : List (List D)) (n_ : Int) (s : ByteArray) (l : List (List D)) (k0 : Bool → Option R) : Option R :=
  bif decide (400 < ofN b.length) then F30 fu ((k0 true)) else bif decide (400 < ofN s.size) then F30 fu ((k0 true)) else bif decide (400 < ofN l.length) then F30 fu ((k0 true)) else bif fits (0 + b.length) 1 then bif fits (0 + b.length) 1 then F32 fu b n_ fun o0 => F34 fu fu n_ fun o1 => bif fits (b.length + o1.length) 1 then F31 fu o0 (b ++ o1) fun o2 => bif o2 then F33 fu b s fun o3 => F35 fu s fun o4 => none else (k0 false) else none else none else none

noncomputable def pc8 (fu : Nat) : Nat → Option ToldP := fun _ => none
noncomputable def t8 (fu : Nat) : ToldF := fun _ args s K => match args, s with
  | [.fz zq0 b false, .int .i64 n_, .str s, .fz zq1 l false], [] => (match FT.sames zq0 ft0 with | true => (match FT.sames zq1 ft1 with | true => F8 fu b n_ s l (fun o => K (.bool o) []) | false => none) | false => none)
  | _, _ => none

theorem e8 (R : Type) (K : UV → USt → Option R) (fu : Nat) (b : List (List D)) (n_ : Int) (s : ByteArray) (l : List (List D)) :
    F8 fu b n_ s l (fun o => K (.bool o) []) = ufun Try.prog ⟨(tb9 fu), pc8 fu⟩ 300 8 [.fz ft0 b false, .int .i64 n_, .str s, .fz ft1 l false] [] (funK 0 [.gc] K) := by kernel_rfl

theorem s8 (fu : Nat) : Tells Try.prog 8 (t8 fu) := by
  refine ufun_sound (T := ⟨(tb9 fu), pc8 fu⟩) (m := 0) (gout := [.gc]) (k := 300) (tb9_sound fu) (fun fn body hf hb => ?_) (fun R args s K r h => ?_) (fun R args s K r h => ?_)
  · have hc : body = code8 := by
      have h1 : Try.prog.funcs[8]? = some Try.f8 := rfl
      rw [h1] at hf; cases hf
      have h2 : Try.f8.body = some code8 := rfl
      rw [h2] at hb; cases hb; rfl
    subst hc
    exact SoundPc.none _ _ _
  · unfold t8 at h; split at h
    · rfl
    · cases h
  · unfold t8 at h; split at h
    case h_2 => cases h
    split at h
    case h_2 => cases h
    rename_i hq
    have hq := FT.sames_eq _ _ hq
    subst hq
    split at h
    case h_2 => cases h
    rename_i hq
    have hq := FT.sames_eq _ _ hq
    subst hq
    exact (e8 R K fu _ _ _ _).symm.trans h

noncomputable def tb8 (fu : Nat) : FuncId → Option (Bool × ToldF) := fun f => match Nat.beq f 8 with
  | true => some (false, ghF [.fzP 0 [] ft0, .fzP 3 [] ft1] (t8 fu))
  | false => (tb9 fu) f
theorem tb8_sound (fu : Nat) : SoundF' Try.prog (tb8 fu) := by
  intro f own told h
  unfold tb8 at h
  split at h
  · rename_i hb
    cases h
    have := Nat.eq_of_beq_eq_true hb
    subst this
    exact ghF_sound (s8 fu)
  · exact (tb9_sound fu) f own told h

end Go.Proofs.Ytdoikghgblohjaa.V

/- CoilApart, CoilRows: what their code computes is true. -/
namespace Go.Proofs.Ytdoikghgblohjaa.V
variable {R : Type}

theorem awake30 (fu : Nat) (k : Option R) : F30 fu k = k := rfl

theorem byD_lt_append {a b : List Nat} (ha : ∀ c ∈ a, c < 256) (hb : ∀ c ∈ b, c < 256) : ∀ c ∈ a ++ b, c < 256 := by
  intro c hc
  rcases List.mem_append.1 hc with h | h
  · exact ha c h
  · exact hb c h

theorem numsL_lt (l : List Nat) : ∀ c ∈ numsL l, c < 256 := by
  intro c hc
  obtain ⟨x, hx, hc⟩ := List.mem_flatten.1 hc
  obtain ⟨m, _, rfl⟩ := List.mem_map.1 hx
  exact numL_lt m c hc

theorem apart7 (n m : Int) (hn : n ≤ 9223372036854775807) (hm : m ≤ 9223372036854775807) (s t : ByteArray) : F7 1000 n m s t (fun o => some o) = some true := by
  unfold F7
  rw [awake30]
  by_cases h1 : (400 : Int) < ofN s.size
  · rw [lt_true h1]; rfl
  · by_cases h2 : (400 : Int) < ofN t.size
    · rw [lt_false h1, lt_true h2]; rfl
    · rw [lt_false h1, lt_false h2, cond_false, cond_false]
      unfold ofN at h1 h2
      rw [num_ok _ (by omega) _ _ (by simp) hn, num_ok _ (by omega) _ _ (by simp) hm]
      unfold F31
      simp only []
      rw [text_ok _ (by omega) _ _ (by simp) (by omega), text_ok _ (by omega) _ _ (by simp) (by omega)]
      simp only [List.nil_append]
      rw [strEq_byD (numL_lt _) (numL_lt _), natOfI_eq, natOfI_eq, ← byD_append, ← byD_append, strEq_byD (byD_lt_append (numL_lt _) (strL_lt _)) (byD_lt_append (numL_lt _) (strL_lt _))]
      have e1 : (decide (numL (natOfI n) = numL (natOfI m)) == decide ((natOfI n : Int) = (natOfI m : Int))) = true := by
        by_cases h : natOfI n = natOfI m
        · rw [h]; simp
        · rw [decide_eq_false (fun e => h (numL_inj e)), decide_eq_false (by omega)]; rfl
      have e2 : (decide (numL s.size ++ strL s = numL t.size ++ strL t) == strEq s t) = true := by
        rw [strEq_iff]
        by_cases h : strL s = strL t
        · have := strL_inj h; subst this; simp
        · rw [decide_eq_false (fun e => h (numL_free _ _ _ _ e).2), decide_eq_false h]; rfl
      rw [e1, e2]
      rfl

theorem rows_loop (fu : Nat) (hfu : 10 ≤ fu) (l : List (List D)) (hl : l.length ≤ 10000) (hi : ∀ r ∈ l, (cell 0 r).toInt ≤ 9223372036854775807) (k : List (List D) → Option R) :
    ∀ (n i : Nat) (out : List (List D)), l.length + 1 ≤ i + n → i ≤ l.length → out.length + 10 * (l.length - i) ≤ 800000 →
      F9_122 fu l (ofN l.length) n (i : Int) out k = k (out ++ byD (numsL (natsOf (l.drop i)))) := by
  intro n
  induction n with
  | zero => intro i out h1 h2; omega
  | succ n ih =>
    intro i out h1 h2 h3
    unfold F9_122
    by_cases hlt : i < l.length
    · rw [lt_true (show (i : Int) < ofN l.length by unfold ofN; omega), cond_true, within_of hlt, cond_true, wrap_succ (by omega), Int.toNat_natCast]
      have he : elem i l = l[i] := by unfold elem; rw [List.getD_eq_getElem?_getD, List.getElem?_eq_getElem hlt]; rfl
      have hn := hi l[i] (List.getElem_mem hlt)
      have hlen := numL_len10 (m := natOfI (cell 0 l[i]).toInt) (by unfold natOfI; split <;> omega)
      rw [he, num_ok fu hfu out _ (by omega) hn, ih (i + 1) _ (by omega) (by omega) (by rw [List.length_append, byD_len]; omega)]
      rw [List.drop_eq_getElem_cons hlt]
      simp only [natsOf, List.map_cons, numsL, List.flatten_cons, byD_append, List.append_assoc]
    · rw [lt_false (show ¬ (i : Int) < ofN l.length by unfold ofN; omega), cond_false, List.drop_eq_nil_of_le (by omega)]
      simp [natsOf, numsL, byD]

theorem rows9 (l : List (List D)) (hi : ∀ r ∈ l, (cell 0 r).toInt ≤ 9223372036854775807) : F9 1000 l (fun o => some o) = some true := by
  unfold F9
  rw [awake30]
  by_cases h1 : (400 : Int) < ofN l.length
  · rw [lt_true h1]; rfl
  · rw [lt_false h1, cond_false]
    unfold ofN at h1
    have hlen := numL_len10 (m := l.length) (by omega)
    have h2 : natOfI (ofN l.length) = l.length := by unfold natOfI ofN; split <;> omega
    rw [num_ok _ (by omega) _ _ (by simp) (by unfold ofN; omega), h2]
    refine (rows_loop 1000 (by omega) l (by omega) hi _ 1000 0 _ (by omega) (by omega) (by rw [List.length_append, byD_len]; simp; omega)).trans ?_
    simp only [List.nil_append, List.drop_zero]
    rw [nums_ok _ (by omega) _ _ (by simp) (by omega) (by omega) hi]
    unfold F31
    simp only []
    simp only [List.nil_append]
    rw [strEq_refl]
    rfl
end Go.Proofs.Ytdoikghgblohjaa.V

/- Sizes as they come. -/
namespace Go.Proofs.Ytdoikghgblohjaa.V
theorem WFD.int_le {d : D} (h : WFD (.int .i64) d) : -9223372036854775808 ≤ d.toInt ∧ d.toInt ≤ 9223372036854775807 := by
  cases h with
  | int k n h => simp [Lit.wf, IntKind.min, IntKind.max, IntKind.signed, IntKind.bits] at h; simp only [D.toInt]; omega
theorem WFD.u8_le {d : D} (h : WFD (.int .u8) d) : 0 ≤ d.toInt ∧ d.toInt ≤ 255 := by
  cases h with
  | int k n h => simp [Lit.wf, IntKind.min, IntKind.max, IntKind.signed, IntKind.bits] at h; simp only [D.toInt]; omega
end Go.Proofs.Ytdoikghgblohjaa.V

namespace Go.Proofs.Ytdoikghgblohjaa

theorem rows_holds : Rows.CoilRowsSaid := rows_join (V.law9 1000 fun _ h1 => V.rows9 _ fun r hr => (V.WFD.int_le (((h1.cell (j := 0) rfl).rows r hr).cell (j := 0) rfl)).2)

end Go.Proofs.Ytdoikghgblohjaa

