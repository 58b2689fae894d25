/- WHAT IS PROVED: the call of CoilStops answers true, and leaves its arguments as they were, at every input that the given row takes; the card ties the row's package variables to the program's text. No condition of its own. -/
import Derived.Test.YtbeiflhnogedeaaDoorBase5
import Derived.Test.YtbeiflhnogedeaaDoorRows
import Derived.Test.YtbeiflhnogedeaaDoorChecked
import Derived.ProofKit
import Derived.KernelRfl
import Derived.LaidLaws
import Derived.LaidHandle
import Derived.Stop.Joined
import Derived.Test.YtbeiflhnogedeaaDoorTie
import Derived.Test.YtbeiflhnogedeaaDoorCards
import Derived.SevenTiedAt
set_option linter.unusedVariables false
set_option linter.unusedSimpArgs false

/- What all joins use: a start that has the laid variable. -/
namespace Go.Proofs.YtbeiflhnogedeaaDoor
open Go.ChangeShapes Go.WideShapes Go.ChangeAt Go.RowKit

theorem Tryd.own : ownKnob Tryd.prog.godebug = none := by kernel_rfl
theorem Tryd.laidOut : laidOutB Tryd.prog = true := by kernel_rfl
theorem Tryd.et : Tryd.prog.globalNamed "errors.errorType" = some 0 := by kernel_rfl
theorem Tryd.rt : (Tryd.prog.cutTypes.find? (·.1 == "internal/reflectlite.rtype")).map (·.2) = some 72 := by kernel_rfl
theorem Tryd.oneRow : ((List.range 127).filter fun t => Tryd.prog.rowNamed t [101, 114, 114, 111, 114]) = [29] := by kernel_rfl
theorem Tryd.size : Tryd.prog.types.size = 127 := by kernel_rfl

/-- What the condition gives: the variable's one cell. -/
theorem handle_of_laid {W : World} (h : laidMetH Tryd.prog Rows.coilStopsRow.laid W) : W.cell? ⟨0, 0, none⟩ = some (.iface 72 (.agg #[.pointer (some ⟨4, 29, none⟩)])) := by
  have h' : laidMet Tryd.prog [] W ∧ handlesMet Tryd.prog Rows.coilStopsRow.laid W := h
  obtain ⟨name, u, ty, e1, e2, e3, e4, e5⟩ := h'.2 _ (List.mem_singleton.2 rfl)
  have en : name = [101, 114, 114, 111, 114] := (Option.some.inj e1).symm
  subst en
  obtain rfl := Option.some.inj (Tryd.rt.symm.trans e2)
  have hm : ty ∈ (List.range 127).filter fun t => Tryd.prog.rowNamed t [101, 114, 114, 111, 114] := List.mem_filter.2 ⟨List.mem_range.2 (by rw [← Tryd.size]; exact e3), e4⟩
  rw [Tryd.oneRow] at hm
  obtain rfl := List.mem_singleton.1 hm
  have hh : typeHandle Tryd.prog 29 = .pointer (some ⟨4, 29, none⟩) := by kernel_rfl
  rw [hh] at e5
  simpa using World.var?_cell Tryd.et e5 0

theorem seat_of_laid (W : World) (args : Array Value) (_ : W.ShapedOpen Tryd.prog) (h : laidMetH Tryd.prog Rows.coilStopsRow.laid W.memory) : V.seatI W := by
  have h := handle_of_laid h
  have e : ∀ (W : World) (a : Addr), W.memory.cell? a = W.cell? a := fun W a => rfl
  rw [e] at h
  exact h

noncomputable def laidWorld (os : Os) : World :=
  let w0 := World.holding Tryd.prog os ⟨#[], #[], []⟩
  { w0 with heap := w0.heap.modify 0 fun
      | .cells _ t frozen => .cells #[.iface 72 (.agg #[.pointer (some ⟨4, 29, none⟩)])] t frozen
      | o => o }
set_option maxRecDepth 100000 in
theorem laid_met (os : Os) (args : Array Value) : laidMetH Tryd.prog Rows.coilStopsRow.laid ((laidWorld os).forCall (fun _ _ => 0) ⟨#[], args, []⟩).memory :=
  laidMetH_of_parts (laidMet_nil _ _) (by kernel_rfl)

end Go.Proofs.YtbeiflhnogedeaaDoor

/- Where V's law of function 3 stands, the given row stands. -/
namespace Go.Proofs.YtbeiflhnogedeaaDoor
open Go.ChangeShapes Go.WideShapes Go.ChangeAt Go.RowKit

set_option maxRecDepth 100000 in
theorem stops_lifted (law : V.Law Tryd.prog 3 Tryd.f3.params.toList) (os : Os) (started : os.Started) (H : Type) (enc : TypeId × Value → H) :
    ReturnsInHanded {} Tryd.checked os 3 .any (fun w args => (Rows.coilStopsSpec.pre enc Tryd.prog Tryd.f3 Rows.coilStopsRow.domain false w args ∧ laidMetH Tryd.prog Rows.coilStopsRow.laid w) ∧ sizedMet enc Tryd.prog Tryd.f3 (OpenSpec.ofChange Rows.coilStopsSpec) false w args) (Rows.coilStopsSpec.post enc Tryd.prog Tryd.f3 false true false false) := by
  refine V.lift_and (C := Tryd.checked) (X := fun w _ => laidMetH Tryd.prog Rows.coilStopsRow.laid w) enc Tryd.own started (by kernel_rfl) Tryd.func3
    (ChangeSpec.witness_at (enc := enc) (C := Tryd.checked) (X := fun w _ => laidMetH Tryd.prog Rows.coilStopsRow.laid w) false (laidWorld os) #[.slice none 0 0, .slice none 0 0] 8 rfl (by kernel_rfl) (by kernel_rfl) (by kernel_rfl) (by kernel_rfl) (by kernel_rfl) (laid_met os _)) rfl (fun ds h => ?_) rfl (by kernel_rfl) Tryd.laidOut (by kernel_rfl) law seat_of_laid
  have h : ds.length = 2 := h
  match ds, h with
  | [d1, d2], _ => rfl

theorem stops_join (law : V.Law Tryd.prog 3 Tryd.f3.params.toList) : Rows.CoilStopsSaid :=
  OpenClaim.holds_of_wide 3 Tryd.f3 rfl rfl rfl rfl rfl rfl rfl ⟨rfl, rfl, rfl, rfl, rfl⟩ rfl rfl rfl rfl rfl (by kernel_rfl) Tryd.func3 (by kernel_rfl)
    (of_decide_eq_true (by kernel_rfl)) (by unfold Func.isWrapper; first | (rw [if_pos (by decide +kernel)]; kernel_rfl) | (rw [if_neg (by decide +kernel)]; exact ⟨rfl, rfl⟩))
    (fun os started H enc _ => stops_lifted law os started H enc)

end Go.Proofs.YtbeiflhnogedeaaDoor

/- Printed by ugen: slices.Clone[[]byte,byte] -/
namespace Go.Proofs.YtbeiflhnogedeaaDoor.V
set_option maxRecDepth 100000
set_option maxHeartbeats 4000000

abbrev ft0 : List FT := [FT.int IntKind.u8]

noncomputable def code22 : Code := match Tryd.f22.body with | some c => c | none => .skip

theorem s22 (fu : Nat) : Tells Tryd.prog 22 (toldClone ft0 1) :=
  clone_tells (F := (tbX fu)) (k := 300) (tbX_sound fu) (fun R K => by kernel_rfl) (fun R K es => by kernel_rfl)

noncomputable def tb22 (fu : Nat) : FuncId → Option (Bool × ToldF) := fun f => match Nat.beq f 22 with
  | true => some (false, ghG [.fzP 0 [] ft0] (toldClone ft0 1))
  | false => (tbX fu) f
theorem tb22_sound (fu : Nat) : SoundF' Tryd.prog (tb22 fu) := by
  intro f own told h
  unfold tb22 at h
  split at h
  · rename_i hb
    cases h
    have := Nat.eq_of_beq_eq_true hb
    subst this
    exact ghG_sound (s22 fu)
  · exact (tbX_sound fu) f own told h

end Go.Proofs.YtbeiflhnogedeaaDoor.V

/- Printed by ugen: bytes.Equal -/
namespace Go.Proofs.YtbeiflhnogedeaaDoor.V
set_option maxRecDepth 100000
set_option maxHeartbeats 4000000


noncomputable def code21 : Code := match Tryd.f21.body with | some c => c | none => .skip

noncomputable def Fb21 {R : Type} (fu : Nat) (a : List (List D)) (b : List (List D)) (k0 : Bool → Option R) : Option R :=
  (k0 (strEq (strOf a) (strOf b)))

noncomputable def F21 {R : Type} (fu : Nat) (a : List (List D)) (b : List (List D)) (k0 : Bool → Option R) : Option R := shut (@Fb21 R) fu a b k0
theorem F21_eq {R : Type} (fu : Nat) (a : List (List D)) (b : List (List D)) (k0 : Bool → Option R) : F21 fu a b k0 = Fb21 fu a b k0 := by unfold F21; rw [shut_eq]

noncomputable def pc21 (fu : Nat) : Nat → Option ToldP := fun _ => none
noncomputable def t21 (fu : Nat) : ToldF := fun _ args s K => match args, s with
  | [.fz zq0 a false, .fz zq1 b false], [] => (match FT.sames zq0 ft0 with | true => (match FT.sames zq1 ft0 with | true => F21 fu a b (fun o_ => K (.bool o_) []) | false => none) | false => none)
  | _, _ => none

theorem e21 (R : Type) (K : UV → USt → Option R) (fu : Nat) (a : List (List D)) (b : List (List D)) :
    F21 fu a b (fun o_ => K (.bool o_) []) = ufun Tryd.prog ⟨(tb22 fu), pc21 fu⟩ 300 21 [.fz ft0 a false, .fz ft0 b false] [] (funK 0 [.gc] K) := (F21_eq fu _ _ _).trans (by kernel_rfl)

theorem s21 (fu : Nat) : Tells Tryd.prog 21 (t21 fu) := by
  refine ufun_sound (T := ⟨(tb22 fu), pc21 fu⟩) (m := 0) (gout := [.gc]) (k := 300) (tb22_sound fu) (fun fn body hf hb => ?_) (fun R args s K r h => ?_) (fun R args s K r h => ?_)
  · have hc : body = code21 := by
      have h1 : Tryd.prog.funcs[21]? = some Tryd.f21 := rfl
      rw [h1] at hf; cases hf
      have h2 : Tryd.f21.body = some code21 := rfl
      rw [h2] at hb; cases hb; rfl
    subst hc
    exact SoundPc.none _ _ _
  · unfold t21 at h; split at h
    · rfl
    · cases h
  · unfold t21 at h; split at h
    case h_2 => cases h
    split at h
    case h_2 => cases h
    rename_i hq
    have hq := FT.sames_eq _ _ hq
    subst hq
    split at h
    case h_2 => cases h
    rename_i hq
    have hq := FT.sames_eq _ _ hq
    subst hq
    exact (e21 R K fu _ _).symm.trans h

noncomputable def tb21 (fu : Nat) : FuncId → Option (Bool × ToldF) := fun f => match Nat.beq f 21 with
  | true => some (false, ghG [.fzP 0 [] ft0, .fzP 1 [] ft0] (t21 fu))
  | false => (tb22 fu) f
theorem tb21_sound (fu : Nat) : SoundF' Tryd.prog (tb21 fu) := by
  intro f own told h
  unfold tb21 at h
  split at h
  · rename_i hb
    cases h
    have := Nat.eq_of_beq_eq_true hb
    subst this
    exact ghG_sound (s21 fu)
  · exact (tb22_sound fu) f own told h

end Go.Proofs.YtbeiflhnogedeaaDoor.V

/- Printed by ugen: daisychain/coil.Num -/
namespace Go.Proofs.YtbeiflhnogedeaaDoor.V
set_option maxRecDepth 100000
set_option maxHeartbeats 4000000


noncomputable def code20 : Code := match Tryd.f20.body with | some c => c | none => .skip
theorem a20_58 : codeAt code20 58 = some (.loop (loopBody (codeAt code20 58))) := by kernel_rfl
noncomputable def F20_58 {R : Type} (fu : Nat) : Nat → Int → (List (List D)) → (Int → (List (List D)) → Option R) → Option R
  | 0, _, _, _ => none
  | n + 1, n_, out, k0 => bif decide (128 ≤ n_) then bif fits (out.length + 1) 1 then (F20_58 fu n (n_.fdiv (2 ^ min (Int.toNat 7) IntKind.i64.bits)) (out ++ [[D.int (IntKind.u8.wrap ↑(BitVec.ofInt IntKind.u8.bits (IntKind.u8.wrap n_) ||| BitVec.ofInt IntKind.u8.bits 128).toNat)]]) k0) else none else (k0 n_ out)

noncomputable def t20_58 (fu n : Nat) : ToldP := fun _ e s K => match e, s with
  | [.int .i64 n_, .own 0], [.row zq0 out] => (match FT.sames zq0 ft0 with | true => F20_58 fu n n_ out (fun o_ o_1 => K (.exit 0) (unpackM (bitsM 6 0x22) [.int .i64 o_, .own 0]) [.row ft0 o_1]) | false => none)
  | _, _ => none

noncomputable def pc20_58 (fu : Nat) : Nat → Option ToldP := fun _ => none
theorem e20_58 (fu n : Nat) (R : Type) (K : VExit → UEnv → USt → Option R) (n_ : Int) (out : List (List D)) :
    F20_58 fu (n + 1) n_ out (fun o_ o_1 => K (.exit 0) (unpackM (bitsM 6 0x22) [.int .i64 o_, .own 0]) [.row ft0 o_1]) = uexec Tryd.prog (tb21 fu) 300 (pc20_58 fu) 116 (loopBody (codeAt code20 58)) (unpackM (bitsM 6 0x22) [.int .i64 n_, .own 0]) [.row ft0 out] (loopK 0 [.live (bitsM 6 0x22), .ownP 5 [] ft0, .gc] [.live (bitsM 6 0x32), .gc] (pkP (bitsM 6 0x22) (t20_58 fu n)) K) := by kernel_rfl

theorem p20_58 (fu : Nat) : SoundPc Tryd.prog 0 code20 (pc20_58 fu) := SoundPc.none _ _ _
theorem s20_58 (fu : Nat) : ∀ n, SoundP Tryd.prog 0 (.loop (loopBody (codeAt code20 58))) (pkP (bitsM 6 0x22) (t20_58 fu n)) := by
  refine loopP_sound (gin := [.live (bitsM 6 0x22), .ownP 5 [] ft0, .gc]) (gout := [.live (bitsM 6 0x32), .gc]) (k := 300) (tb21_sound fu) (p20_58 fu) (by decide) a20_58 (fun R e s K => ?_) (fun n R e s K r h => ?_)
  · unfold t20_58; repeat' split
    all_goals rfl
  · unfold t20_58 at h; split at h
    case h_2 => cases h
    split at h
    case h_2 => cases h
    rename_i hq
    have hq := FT.sames_eq _ _ hq
    subst hq
    exact (e20_58 fu n R K _ _).symm.trans h


noncomputable def Fb20 {R : Type} (fu : Nat) (b : List (List D)) (n_ : Int) (k0 : (List (List D)) → Option R) : Option R :=
  bif fits b.length 1 then F20_58 fu fu (if 0 > n_ then 0 else n_) b fun o_0 o_1 => bif fits (o_1.length + 1) 1 then (k0 (o_1 ++ [[D.int (IntKind.u8.wrap o_0)]])) else none else none

noncomputable def F20 {R : Type} (fu : Nat) (b : List (List D)) (n_ : Int) (k0 : (List (List D)) → Option R) : Option R := shut (@Fb20 R) fu b n_ k0
theorem F20_eq {R : Type} (fu : Nat) (b : List (List D)) (n_ : Int) (k0 : (List (List D)) → Option R) : F20 fu b n_ k0 = Fb20 fu b n_ k0 := by unfold F20; rw [shut_eq]

noncomputable def pc20 (fu : Nat) : Nat → Option ToldP := fun p => match Nat.beq p 58 with | true => some (ghP 0 [.live (bitsM 6 0x22), .ownP 5 [] ft0, .gc] (pkP (bitsM 6 0x22) (t20_58 fu fu))) | false => none
noncomputable def t20 (fu : Nat) : ToldF := fun _ args s K => match args, s with
  | [.fz zq0 b false, .int .i64 n_], [] => (match FT.sames zq0 ft0 with | true => F20 fu b n_ (fun o_ => K (.own 0) [.row ft0 o_]) | false => none)
  | _, _ => none

theorem e20 (R : Type) (K : UV → USt → Option R) (fu : Nat) (b : List (List D)) (n_ : Int) :
    F20 fu b n_ (fun o_ => K (.own 0) [.row ft0 o_]) = ufun Tryd.prog ⟨(tb21 fu), pc20 fu⟩ 300 20 [.fz ft0 b false, .int .i64 n_] [] (funK 0 [.gc] K) := (F20_eq fu _ _ _).trans (by kernel_rfl)

theorem s20 (fu : Nat) : Tells Tryd.prog 20 (t20 fu) := by
  refine ufun_sound (T := ⟨(tb21 fu), pc20 fu⟩) (m := 0) (gout := [.gc]) (k := 300) (tb21_sound fu) (fun fn body hf hb => ?_) (fun R args s K r h => ?_) (fun R args s K r h => ?_)
  · have hc : body = code20 := by
      have h1 : Tryd.prog.funcs[20]? = some Tryd.f20 := rfl
      rw [h1] at hf; cases hf
      have h2 : Tryd.f20.body = some code20 := rfl
      rw [h2] at hb; cases hb; rfl
    subst hc
    exact fun p told h b hb => by
      replace h : pc20 fu p = some told := h
      unfold pc20 at h
      split at h
      · rename_i hp
        cases h
        have := Nat.eq_of_beq_eq_true hp
        subst this
        rw [a20_58] at hb
        cases hb
        exact ghP_sound (s20_58 fu _)
      ·
        cases h

  · unfold t20 at h; split at h
    · rfl
    · cases h
  · unfold t20 at h; split at h
    case h_2 => cases h
    split at h
    case h_2 => cases h
    rename_i hq
    have hq := FT.sames_eq _ _ hq
    subst hq
    exact (e20 R K fu _ _).symm.trans h

noncomputable def tb20 (fu : Nat) : FuncId → Option (Bool × ToldF) := fun f => match Nat.beq f 20 with
  | true => some (false, ghG [.fzP 0 [] ft0] (t20 fu))
  | false => (tb21 fu) f
theorem tb20_sound (fu : Nat) : SoundF' Tryd.prog (tb20 fu) := by
  intro f own told h
  unfold tb20 at h
  split at h
  · rename_i hb
    cases h
    have := Nat.eq_of_beq_eq_true hb
    subst this
    exact ghG_sound (s20 fu)
  · exact (tb21_sound fu) f own told h

end Go.Proofs.YtbeiflhnogedeaaDoor.V

/- Printed by ugen: daisychain/coil.Text -/
namespace Go.Proofs.YtbeiflhnogedeaaDoor.V
set_option maxRecDepth 100000
set_option maxHeartbeats 4000000


noncomputable def code19 : Code := match Tryd.f19.body with | some c => c | none => .skip

noncomputable def Fb19 {R : Type} (fu : Nat) (b : List (List D)) (s : ByteArray) (k0 : (List (List D)) → Option R) : Option R :=
  F20 fu b (ofN s.size) fun o_0 => bif fits (o_0.length + (bytesD s).length) 1 then (k0 (o_0 ++ bytesD s)) else none

noncomputable def F19 {R : Type} (fu : Nat) (b : List (List D)) (s : ByteArray) (k0 : (List (List D)) → Option R) : Option R := shut (@Fb19 R) fu b s k0
theorem F19_eq {R : Type} (fu : Nat) (b : List (List D)) (s : ByteArray) (k0 : (List (List D)) → Option R) : F19 fu b s k0 = Fb19 fu b s k0 := by unfold F19; rw [shut_eq]

noncomputable def pc19 (fu : Nat) : Nat → Option ToldP := fun _ => none
noncomputable def t19 (fu : Nat) : ToldF := fun _ args s K => match args, s with
  | [.fz zq0 b false, .str s], [] => (match FT.sames zq0 ft0 with | true => F19 fu b s (fun o_ => K (.own 0) [.row ft0 o_]) | false => none)
  | _, _ => none

theorem e19 (R : Type) (K : UV → USt → Option R) (fu : Nat) (b : List (List D)) (s : ByteArray) :
    F19 fu b s (fun o_ => K (.own 0) [.row ft0 o_]) = ufun Tryd.prog ⟨(tb20 fu), pc19 fu⟩ 300 19 [.fz ft0 b false, .str s] [] (funK 0 [.gc] K) := (F19_eq fu _ _ _).trans (by kernel_rfl)

theorem s19 (fu : Nat) : Tells Tryd.prog 19 (t19 fu) := by
  refine ufun_sound (T := ⟨(tb20 fu), pc19 fu⟩) (m := 0) (gout := [.gc]) (k := 300) (tb20_sound fu) (fun fn body hf hb => ?_) (fun R args s K r h => ?_) (fun R args s K r h => ?_)
  · have hc : body = code19 := by
      have h1 : Tryd.prog.funcs[19]? = some Tryd.f19 := rfl
      rw [h1] at hf; cases hf
      have h2 : Tryd.f19.body = some code19 := rfl
      rw [h2] at hb; cases hb; rfl
    subst hc
    exact SoundPc.none _ _ _
  · unfold t19 at h; split at h
    · rfl
    · cases h
  · unfold t19 at h; split at h
    case h_2 => cases h
    split at h
    case h_2 => cases h
    rename_i hq
    have hq := FT.sames_eq _ _ hq
    subst hq
    exact (e19 R K fu _ _).symm.trans h

noncomputable def tb19 (fu : Nat) : FuncId → Option (Bool × ToldF) := fun f => match Nat.beq f 19 with
  | true => some (false, ghG [.fzP 0 [] ft0] (t19 fu))
  | false => (tb20 fu) f
theorem tb19_sound (fu : Nat) : SoundF' Tryd.prog (tb19 fu) := by
  intro f own told h
  unfold tb19 at h
  split at h
  · rename_i hb
    cases h
    have := Nat.eq_of_beq_eq_true hb
    subst this
    exact ghG_sound (s19 fu)
  · exact (tb20_sound fu) f own told h

end Go.Proofs.YtbeiflhnogedeaaDoor.V

/- Printed by ugen: (*daisychain/coil.Reader).number -/
namespace Go.Proofs.YtbeiflhnogedeaaDoor.V
set_option maxRecDepth 100000
set_option maxHeartbeats 4000000

abbrev ft1 : List FT := [FT.ptr [FT.int IntKind.i64, FT.ifc [36] [FT.int IntKind.i64]]]

noncomputable def code23 : Code := match Tryd.f23.body with | some c => c | none => .skip
theorem a23_58 : codeAt code23 58 = some (.loop (loopBody (codeAt code23 58))) := by kernel_rfl
noncomputable def F23_58 {R : Type} (fu : Nat) (from_ : Int) (r1 : D) (r2 : List (List D)) : Nat → Int → Int → Int → (Int → Int → D → Option R) → (Int → Option R) → Option R
  | 0, _, _, _, _, _ => none
  | n + 1, n_, k_, r, k0, k1 => bif !r1.some? then bif decide (9 ≤ k_) then (k0 0 from_ (D.row [[D.int 39, D.row [[D.int from_, D.row [[D.int 36, D.int 2]]]]]])) else bif decide (ofN r2.length ≤ r) then (k0 0 from_ (D.row [[D.int 39, D.row [[D.int from_, D.row [[D.int 36, D.int 3]]]]]])) else bif within r r2.length then bif decide (IntKind.i64.wrap (7 * k_) < 0) then none else bif decide (128 ≤ IntKind.i64.wrap (cell 0 (elem r.toNat r2)).toInt) then (F23_58 fu from_ r1 r2 n (IntKind.i64.wrap ↑(BitVec.ofInt IntKind.i64.bits n_ ||| BitVec.ofInt IntKind.i64.bits (IntKind.i64.wrap (IntKind.i64.wrap ↑(BitVec.ofInt IntKind.i64.bits (IntKind.i64.wrap (cell 0 (elem r.toNat r2)).toInt) &&& BitVec.ofInt IntKind.i64.bits 127).toNat * 2 ^ min (IntKind.i64.wrap (7 * k_)).toNat IntKind.i64.bits))).toNat) (IntKind.i64.wrap (k_ + 1)) (IntKind.i64.wrap (r + 1)) k0 k1) else bif decide (IntKind.i64.wrap (cell 0 (elem r.toNat r2)).toInt = 0) then bif decide (0 < k_) then (k0 0 from_ (D.row [[D.int 39, D.row [[D.int from_, D.row [[D.int 36, D.int 2]]]]]])) else (k0 (IntKind.i64.wrap ↑(BitVec.ofInt IntKind.i64.bits n_ ||| BitVec.ofInt IntKind.i64.bits (IntKind.i64.wrap (IntKind.i64.wrap ↑(BitVec.ofInt IntKind.i64.bits (IntKind.i64.wrap (cell 0 (elem r.toNat r2)).toInt) &&& BitVec.ofInt IntKind.i64.bits 127).toNat * 2 ^ min (IntKind.i64.wrap (7 * k_)).toNat IntKind.i64.bits))).toNat) (IntKind.i64.wrap (r + 1)) r1) else (k0 (IntKind.i64.wrap ↑(BitVec.ofInt IntKind.i64.bits n_ ||| BitVec.ofInt IntKind.i64.bits (IntKind.i64.wrap (IntKind.i64.wrap ↑(BitVec.ofInt IntKind.i64.bits (IntKind.i64.wrap (cell 0 (elem r.toNat r2)).toInt) &&& BitVec.ofInt IntKind.i64.bits 127).toNat * 2 ^ min (IntKind.i64.wrap (7 * k_)).toNat IntKind.i64.bits))).toNat) (IntKind.i64.wrap (r + 1)) r1) else none else (k1 r)

noncomputable def t23_58 (fu n : Nat) : ToldP := fun _ e s K => match e, s with
  | [.ptr 0 0, .int .i64 from_, .int .i64 n_, .int .i64 k_], [.obj [.int .i64 r, .ifz zq0 zq1 r1, .fz zq2 r2 false]] => (match natsEq zq0 [39] with | true => (match FT.sames zq1 ft1 with | true => (match FT.sames zq2 ft0 with | true => F23_58 fu from_ r1 r2 n n_ k_ r (fun o_ o_1 o_2 => K .ret (unpackM (bitsM 5 0x10) [.int .i64 o_]) [.obj [.int .i64 o_1, .ifz [39] ft1 o_2, .fz ft0 (r2) false]]) (fun o_ => K (.exit 0) (unpackM (bitsM 5 0x0) []) [.obj [.int .i64 o_, .ifz [39] ft1 (r1), .fz ft0 (r2) false]]) | false => none) | false => none) | false => none)
  | _, _ => none

noncomputable def pc23_58 (fu : Nat) : Nat → Option ToldP := fun _ => none
theorem e23_58 (fu n : Nat) (R : Type) (K : VExit → UEnv → USt → Option R) (from_ : Int) (n_ : Int) (k_ : Int) (r : Int) (r1 : D) (r2 : List (List D)) :
    F23_58 fu from_ r1 r2 (n + 1) n_ k_ r (fun o_ o_1 o_2 => K .ret (unpackM (bitsM 5 0x10) [.int .i64 o_]) [.obj [.int .i64 o_1, .ifz [39] ft1 o_2, .fz ft0 (r2) false]]) (fun o_ => K (.exit 0) (unpackM (bitsM 5 0x0) []) [.obj [.int .i64 o_, .ifz [39] ft1 (r1), .fz ft0 (r2) false]]) = uexec Tryd.prog (tb19 fu) 300 (pc23_58 fu) 116 (loopBody (codeAt code23 58)) (unpackM (bitsM 7 0x63) [.ptr 0 0, .int .i64 from_, .int .i64 n_, .int .i64 k_]) [.obj [.int .i64 r, .ifz [39] ft1 r1, .fz ft0 r2 false]] (loopK 1 [.live (bitsM 7 0x63), .gc] [.live (bitsM 5 0x10), .gc, .ifC 0 1 [39] ft1, .gc] (pkP (bitsM 7 0x63) (t23_58 fu n)) K) := by kernel_rfl

theorem p23_58 (fu : Nat) : SoundPc Tryd.prog 1 code23 (pc23_58 fu) := SoundPc.none _ _ _
theorem s23_58 (fu : Nat) : ∀ n, SoundP Tryd.prog 1 (.loop (loopBody (codeAt code23 58))) (pkP (bitsM 7 0x63) (t23_58 fu n)) := by
  refine loopP_sound (gin := [.live (bitsM 7 0x63), .gc]) (gout := [.live (bitsM 5 0x10), .gc, .ifC 0 1 [39] ft1, .gc]) (k := 300) (tb19_sound fu) (p23_58 fu) (by decide) a23_58 (fun R e s K => ?_) (fun n R e s K r h => ?_)
  · unfold t23_58; repeat' split
    all_goals rfl
  · unfold t23_58 at h; split at h
    case h_2 => cases h
    split at h
    case h_2 => cases h
    rename_i hq
    have hq := natsEq_eq _ _ hq
    subst hq
    split at h
    case h_2 => cases h
    rename_i hq
    have hq := FT.sames_eq _ _ hq
    subst hq
    split at h
    case h_2 => cases h
    rename_i hq
    have hq := FT.sames_eq _ _ hq
    subst hq
    exact (e23_58 fu n R K _ _ _ _ _ _).symm.trans h


noncomputable def Fb23 {R : Type} (fu : Nat) (from_ : Int) (r_place_at : Int) (r_place_err : D) (r_b : List (List D)) (k0 : Int → Int → D → Option R) : Option R :=
  F23_58 fu from_ r_place_err r_b fu 0 0 r_place_at (fun o_0 o_1 o_2 => (k0 o_0 o_1 o_2)) fun o_3 => (k0 0 o_3 r_place_err)

noncomputable def F23 {R : Type} (fu : Nat) (from_ : Int) (r_place_at : Int) (r_place_err : D) (r_b : List (List D)) (k0 : Int → Int → D → Option R) : Option R := shut (@Fb23 R) fu from_ r_place_at r_place_err r_b k0
theorem F23_eq {R : Type} (fu : Nat) (from_ : Int) (r_place_at : Int) (r_place_err : D) (r_b : List (List D)) (k0 : Int → Int → D → Option R) : F23 fu from_ r_place_at r_place_err r_b k0 = Fb23 fu from_ r_place_at r_place_err r_b k0 := by unfold F23; rw [shut_eq]

noncomputable def pc23 (fu : Nat) : Nat → Option ToldP := fun p => match Nat.beq p 58 with | true => some (ghP 1 [.live (bitsM 7 0x63), .gc] (pkP (bitsM 7 0x63) (t23_58 fu fu))) | false => none
noncomputable def t23 (fu : Nat) : ToldF := fun _ args s K => match args, s with
  | [.ptr 0 0, .int .i64 from_], [.obj [.int .i64 r_place_at, .ifz zq0 zq1 r_place_err, .fz zq2 r_b false]] => (match natsEq zq0 [39] with | true => (match FT.sames zq1 ft1 with | true => (match FT.sames zq2 ft0 with | true => F23 fu from_ r_place_at r_place_err r_b (fun o_ o_1 o_2 => K (.int .i64 o_) [.obj [.int .i64 o_1, .ifz [39] ft1 o_2, .fz ft0 (r_b) false]]) | false => none) | false => none) | false => none)
  | _, _ => none

theorem e23 (R : Type) (K : UV → USt → Option R) (fu : Nat) (from_ : Int) (r_place_at : Int) (r_place_err : D) (r_b : List (List D)) :
    F23 fu from_ r_place_at r_place_err r_b (fun o_ o_1 o_2 => K (.int .i64 o_) [.obj [.int .i64 o_1, .ifz [39] ft1 o_2, .fz ft0 (r_b) false]]) = ufun Tryd.prog ⟨(tb19 fu), pc23 fu⟩ 300 23 [.ptr 0 0, .int .i64 from_] [.obj [.int .i64 r_place_at, .ifz [39] ft1 r_place_err, .fz ft0 r_b false]] (funK 1 [.gc, .ifC 0 1 [39] ft1, .fzC 0 2 ft0, .gc] K) := (F23_eq fu _ _ _ _ _).trans (by kernel_rfl)

theorem s23 (fu : Nat) : Tells Tryd.prog 23 (t23 fu) := by
  refine ufun_sound (T := ⟨(tb19 fu), pc23 fu⟩) (m := 1) (gout := [.gc, .ifC 0 1 [39] ft1, .fzC 0 2 ft0, .gc]) (k := 300) (tb19_sound fu) (fun fn body hf hb => ?_) (fun R args s K r h => ?_) (fun R args s K r h => ?_)
  · have hc : body = code23 := by
      have h1 : Tryd.prog.funcs[23]? = some Tryd.f23 := rfl
      rw [h1] at hf; cases hf
      have h2 : Tryd.f23.body = some code23 := rfl
      rw [h2] at hb; cases hb; rfl
    subst hc
    exact fun p told h b hb => by
      replace h : pc23 fu p = some told := h
      unfold pc23 at h
      split at h
      · rename_i hp
        cases h
        have := Nat.eq_of_beq_eq_true hp
        subst this
        rw [a23_58] at hb
        cases hb
        exact ghP_sound (s23_58 fu _)
      ·
        cases h

  · unfold t23 at h; split at h
    · rfl
    · cases h
  · unfold t23 at h; split at h
    case h_2 => cases h
    split at h
    case h_2 => cases h
    rename_i hq
    have hq := natsEq_eq _ _ hq
    subst hq
    split at h
    case h_2 => cases h
    rename_i hq
    have hq := FT.sames_eq _ _ hq
    subst hq
    split at h
    case h_2 => cases h
    rename_i hq
    have hq := FT.sames_eq _ _ hq
    subst hq
    exact (e23 R K fu _ _ _ _).symm.trans h

noncomputable def tb23 (fu : Nat) : FuncId → Option (Bool × ToldF) := fun f => match Nat.beq f 23 with
  | true => some (false, ghG [.gc, .ifC 0 1 [39] ft1, .fzC 0 2 ft0, .gc] (t23 fu))
  | false => (tb19 fu) f
theorem tb23_sound (fu : Nat) : SoundF' Tryd.prog (tb23 fu) := by
  intro f own told h
  unfold tb23 at h
  split at h
  · rename_i hb
    cases h
    have := Nat.eq_of_beq_eq_true hb
    subst this
    exact ghG_sound (s23 fu)
  · exact (tb19_sound fu) f own told h

end Go.Proofs.YtbeiflhnogedeaaDoor.V

/- Printed by ugen: daisychain/coil.Of -/
namespace Go.Proofs.YtbeiflhnogedeaaDoor.V
set_option maxRecDepth 100000
set_option maxHeartbeats 4000000


noncomputable def code6 : Code := match Tryd.f6.body with | some c => c | none => .skip

noncomputable def Fb6 {R : Type} (fu : Nat) (b : List (List D)) (k0 : D → Option R) : Option R :=
  bif fits b.length 1 then (k0 D.nil) else none

noncomputable def F6 {R : Type} (fu : Nat) (b : List (List D)) (k0 : D → Option R) : Option R := shut (@Fb6 R) fu b k0
theorem F6_eq {R : Type} (fu : Nat) (b : List (List D)) (k0 : D → Option R) : F6 fu b k0 = Fb6 fu b k0 := by unfold F6; rw [shut_eq]

noncomputable def pc6 (fu : Nat) : Nat → Option ToldP := fun _ => none
noncomputable def t6 (fu : Nat) : ToldF := fun _ args s K => match args, s with
  | [.fz zq0 b false], [] => (match FT.sames zq0 ft0 with | true => F6 fu b (fun o_ => K (.ptr 0 0) [.obj [.int .i64 (0), .ifz [39] ft1 o_, .fz ft0 (b) false]]) | false => none)
  | _, _ => none

theorem e6 (R : Type) (K : UV → USt → Option R) (fu : Nat) (b : List (List D)) :
    F6 fu b (fun o_ => K (.ptr 0 0) [.obj [.int .i64 (0), .ifz [39] ft1 o_, .fz ft0 (b) false]]) = ufun Tryd.prog ⟨(tb23 fu), pc6 fu⟩ 300 6 [.fz ft0 b false] [] (funK 0 [.gc, .ifC 0 1 [39] ft1, .fzC 0 2 ft0, .gc] K) := (F6_eq fu _ _).trans (by kernel_rfl)

theorem s6 (fu : Nat) : Tells Tryd.prog 6 (t6 fu) := by
  refine ufun_sound (T := ⟨(tb23 fu), pc6 fu⟩) (m := 0) (gout := [.gc, .ifC 0 1 [39] ft1, .fzC 0 2 ft0, .gc]) (k := 300) (tb23_sound fu) (fun fn body hf hb => ?_) (fun R args s K r h => ?_) (fun R args s K r h => ?_)
  · have hc : body = code6 := by
      have h1 : Tryd.prog.funcs[6]? = some Tryd.f6 := rfl
      rw [h1] at hf; cases hf
      have h2 : Tryd.f6.body = some code6 := rfl
      rw [h2] at hb; cases hb; rfl
    subst hc
    exact SoundPc.none _ _ _
  · unfold t6 at h; split at h
    · rfl
    · cases h
  · unfold t6 at h; split at h
    case h_2 => cases h
    split at h
    case h_2 => cases h
    rename_i hq
    have hq := FT.sames_eq _ _ hq
    subst hq
    exact (e6 R K fu _).symm.trans h

noncomputable def tb6 (fu : Nat) : FuncId → Option (Bool × ToldF) := fun f => match Nat.beq f 6 with
  | true => some (false, ghG [.fzP 0 [] ft0] (t6 fu))
  | false => (tb23 fu) f
theorem tb6_sound (fu : Nat) : SoundF' Tryd.prog (tb6 fu) := by
  intro f own told h
  unfold tb6 at h
  split at h
  · rename_i hb
    cases h
    have := Nat.eq_of_beq_eq_true hb
    subst this
    exact ghG_sound (s6 fu)
  · exact (tb23_sound fu) f own told h

end Go.Proofs.YtbeiflhnogedeaaDoor.V

/- Printed by ugen: (*daisychain/coil.Reader).Num -/
namespace Go.Proofs.YtbeiflhnogedeaaDoor.V
set_option maxRecDepth 100000
set_option maxHeartbeats 4000000


noncomputable def code7 : Code := match Tryd.f7.body with | some c => c | none => .skip

noncomputable def Fb7 {R : Type} (fu : Nat) (r_place_at : Int) (r_place_err : D) (r_b : List (List D)) (k0 : Int → Int → D → Option R) : Option R :=
  F23 fu r_place_at r_place_at r_place_err r_b fun o_0 o_1 o_2 => (k0 o_0 o_1 o_2)

noncomputable def F7 {R : Type} (fu : Nat) (r_place_at : Int) (r_place_err : D) (r_b : List (List D)) (k0 : Int → Int → D → Option R) : Option R := shut (@Fb7 R) fu r_place_at r_place_err r_b k0
theorem F7_eq {R : Type} (fu : Nat) (r_place_at : Int) (r_place_err : D) (r_b : List (List D)) (k0 : Int → Int → D → Option R) : F7 fu r_place_at r_place_err r_b k0 = Fb7 fu r_place_at r_place_err r_b k0 := by unfold F7; rw [shut_eq]

noncomputable def pc7 (fu : Nat) : Nat → Option ToldP := fun _ => none
noncomputable def t7 (fu : Nat) : ToldF := fun _ args s K => match args, s with
  | [.ptr 0 0], [.obj [.int .i64 r_place_at, .ifz zq0 zq1 r_place_err, .fz zq2 r_b false]] => (match natsEq zq0 [39] with | true => (match FT.sames zq1 ft1 with | true => (match FT.sames zq2 ft0 with | true => F7 fu r_place_at r_place_err r_b (fun o_ o_1 o_2 => K (.int .i64 o_) [.obj [.int .i64 o_1, .ifz [39] ft1 o_2, .fz ft0 (r_b) false]]) | false => none) | false => none) | false => none)
  | _, _ => none

theorem e7 (R : Type) (K : UV → USt → Option R) (fu : Nat) (r_place_at : Int) (r_place_err : D) (r_b : List (List D)) :
    F7 fu r_place_at r_place_err r_b (fun o_ o_1 o_2 => K (.int .i64 o_) [.obj [.int .i64 o_1, .ifz [39] ft1 o_2, .fz ft0 (r_b) false]]) = ufun Tryd.prog ⟨(tb6 fu), pc7 fu⟩ 300 7 [.ptr 0 0] [.obj [.int .i64 r_place_at, .ifz [39] ft1 r_place_err, .fz ft0 r_b false]] (funK 1 [.gc, .ifC 0 1 [39] ft1, .fzC 0 2 ft0, .gc] K) := (F7_eq fu _ _ _ _).trans (by kernel_rfl)

theorem s7 (fu : Nat) : Tells Tryd.prog 7 (t7 fu) := by
  refine ufun_sound (T := ⟨(tb6 fu), pc7 fu⟩) (m := 1) (gout := [.gc, .ifC 0 1 [39] ft1, .fzC 0 2 ft0, .gc]) (k := 300) (tb6_sound fu) (fun fn body hf hb => ?_) (fun R args s K r h => ?_) (fun R args s K r h => ?_)
  · have hc : body = code7 := by
      have h1 : Tryd.prog.funcs[7]? = some Tryd.f7 := rfl
      rw [h1] at hf; cases hf
      have h2 : Tryd.f7.body = some code7 := rfl
      rw [h2] at hb; cases hb; rfl
    subst hc
    exact SoundPc.none _ _ _
  · unfold t7 at h; split at h
    · rfl
    · cases h
  · unfold t7 at h; split at h
    case h_2 => cases h
    split at h
    case h_2 => cases h
    rename_i hq
    have hq := natsEq_eq _ _ hq
    subst hq
    split at h
    case h_2 => cases h
    rename_i hq
    have hq := FT.sames_eq _ _ hq
    subst hq
    split at h
    case h_2 => cases h
    rename_i hq
    have hq := FT.sames_eq _ _ hq
    subst hq
    exact (e7 R K fu _ _ _).symm.trans h

noncomputable def tb7 (fu : Nat) : FuncId → Option (Bool × ToldF) := fun f => match Nat.beq f 7 with
  | true => some (false, ghG [.gc, .ifC 0 1 [39] ft1, .fzC 0 2 ft0, .gc] (t7 fu))
  | false => (tb6 fu) f
theorem tb7_sound (fu : Nat) : SoundF' Tryd.prog (tb7 fu) := by
  intro f own told h
  unfold tb7 at h
  split at h
  · rename_i hb
    cases h
    have := Nat.eq_of_beq_eq_true hb
    subst this
    exact ghG_sound (s7 fu)
  · exact (tb6_sound fu) f own told h

end Go.Proofs.YtbeiflhnogedeaaDoor.V

/- Printed by ugen: (*daisychain/coil.Reader).At -/
namespace Go.Proofs.YtbeiflhnogedeaaDoor.V
set_option maxRecDepth 100000
set_option maxHeartbeats 4000000


noncomputable def code9 : Code := match Tryd.f9.body with | some c => c | none => .skip

noncomputable def Fb9 {R : Type} (fu : Nat) (r_place_at : Int) (r_place_err : D) (r_b : List (List D)) (k0 : Option R) : Option R :=
  (k0)

noncomputable def F9 {R : Type} (fu : Nat) (r_place_at : Int) (r_place_err : D) (r_b : List (List D)) (k0 : Option R) : Option R := shut (@Fb9 R) fu r_place_at r_place_err r_b k0
theorem F9_eq {R : Type} (fu : Nat) (r_place_at : Int) (r_place_err : D) (r_b : List (List D)) (k0 : Option R) : F9 fu r_place_at r_place_err r_b k0 = Fb9 fu r_place_at r_place_err r_b k0 := by unfold F9; rw [shut_eq]

noncomputable def pc9 (fu : Nat) : Nat → Option ToldP := fun _ => none
noncomputable def t9 (fu : Nat) : ToldF := fun _ args s K => match args, s with
  | [.ptr 0 0], [.obj [.int .i64 r_place_at, .ifz zq0 zq1 r_place_err, .fz zq2 r_b false]] => (match natsEq zq0 [39] with | true => (match FT.sames zq1 ft1 with | true => (match FT.sames zq2 ft0 with | true => F9 fu r_place_at r_place_err r_b (K (.int .i64 (r_place_at)) [.obj [.int .i64 (r_place_at), .ifz [39] ft1 (r_place_err), .fz ft0 (r_b) false]]) | false => none) | false => none) | false => none)
  | _, _ => none

theorem e9 (R : Type) (K : UV → USt → Option R) (fu : Nat) (r_place_at : Int) (r_place_err : D) (r_b : List (List D)) :
    F9 fu r_place_at r_place_err r_b (K (.int .i64 (r_place_at)) [.obj [.int .i64 (r_place_at), .ifz [39] ft1 (r_place_err), .fz ft0 (r_b) false]]) = ufun Tryd.prog ⟨(tb7 fu), pc9 fu⟩ 300 9 [.ptr 0 0] [.obj [.int .i64 r_place_at, .ifz [39] ft1 r_place_err, .fz ft0 r_b false]] (funK 1 [.gc, .ifC 0 1 [39] ft1, .fzC 0 2 ft0, .gc] K) := (F9_eq fu _ _ _ _).trans (by kernel_rfl)

theorem s9 (fu : Nat) : Tells Tryd.prog 9 (t9 fu) := by
  refine ufun_sound (T := ⟨(tb7 fu), pc9 fu⟩) (m := 1) (gout := [.gc, .ifC 0 1 [39] ft1, .fzC 0 2 ft0, .gc]) (k := 300) (tb7_sound fu) (fun fn body hf hb => ?_) (fun R args s K r h => ?_) (fun R args s K r h => ?_)
  · have hc : body = code9 := by
      have h1 : Tryd.prog.funcs[9]? = some Tryd.f9 := rfl
      rw [h1] at hf; cases hf
      have h2 : Tryd.f9.body = some code9 := rfl
      rw [h2] at hb; cases hb; rfl
    subst hc
    exact SoundPc.none _ _ _
  · unfold t9 at h; split at h
    · rfl
    · cases h
  · unfold t9 at h; split at h
    case h_2 => cases h
    split at h
    case h_2 => cases h
    rename_i hq
    have hq := natsEq_eq _ _ hq
    subst hq
    split at h
    case h_2 => cases h
    rename_i hq
    have hq := FT.sames_eq _ _ hq
    subst hq
    split at h
    case h_2 => cases h
    rename_i hq
    have hq := FT.sames_eq _ _ hq
    subst hq
    exact (e9 R K fu _ _ _).symm.trans h

noncomputable def tb9 (fu : Nat) : FuncId → Option (Bool × ToldF) := fun f => match Nat.beq f 9 with
  | true => some (false, ghG [.gc, .ifC 0 1 [39] ft1, .fzC 0 2 ft0, .gc] (t9 fu))
  | false => (tb7 fu) f
theorem tb9_sound (fu : Nat) : SoundF' Tryd.prog (tb9 fu) := by
  intro f own told h
  unfold tb9 at h
  split at h
  · rename_i hb
    cases h
    have := Nat.eq_of_beq_eq_true hb
    subst this
    exact ghG_sound (s9 fu)
  · exact (tb7_sound fu) f own told h

end Go.Proofs.YtbeiflhnogedeaaDoor.V

/- Printed by ugen: (*daisychain/coil.Reader).Left -/
namespace Go.Proofs.YtbeiflhnogedeaaDoor.V
set_option maxRecDepth 100000
set_option maxHeartbeats 4000000


noncomputable def code10 : Code := match Tryd.f10.body with | some c => c | none => .skip

noncomputable def Fb10 {R : Type} (fu : Nat) (r_place_at : Int) (r_place_err : D) (r_b : List (List D)) (k0 : Int → Option R) : Option R :=
  (k0 (IntKind.i64.wrap (ofN r_b.length - r_place_at)))

noncomputable def F10 {R : Type} (fu : Nat) (r_place_at : Int) (r_place_err : D) (r_b : List (List D)) (k0 : Int → Option R) : Option R := shut (@Fb10 R) fu r_place_at r_place_err r_b k0
theorem F10_eq {R : Type} (fu : Nat) (r_place_at : Int) (r_place_err : D) (r_b : List (List D)) (k0 : Int → Option R) : F10 fu r_place_at r_place_err r_b k0 = Fb10 fu r_place_at r_place_err r_b k0 := by unfold F10; rw [shut_eq]

noncomputable def pc10 (fu : Nat) : Nat → Option ToldP := fun _ => none
noncomputable def t10 (fu : Nat) : ToldF := fun _ args s K => match args, s with
  | [.ptr 0 0], [.obj [.int .i64 r_place_at, .ifz zq0 zq1 r_place_err, .fz zq2 r_b false]] => (match natsEq zq0 [39] with | true => (match FT.sames zq1 ft1 with | true => (match FT.sames zq2 ft0 with | true => F10 fu r_place_at r_place_err r_b (fun o_ => K (.int .i64 o_) [.obj [.int .i64 (r_place_at), .ifz [39] ft1 (r_place_err), .fz ft0 (r_b) false]]) | false => none) | false => none) | false => none)
  | _, _ => none

theorem e10 (R : Type) (K : UV → USt → Option R) (fu : Nat) (r_place_at : Int) (r_place_err : D) (r_b : List (List D)) :
    F10 fu r_place_at r_place_err r_b (fun o_ => K (.int .i64 o_) [.obj [.int .i64 (r_place_at), .ifz [39] ft1 (r_place_err), .fz ft0 (r_b) false]]) = ufun Tryd.prog ⟨(tb9 fu), pc10 fu⟩ 300 10 [.ptr 0 0] [.obj [.int .i64 r_place_at, .ifz [39] ft1 r_place_err, .fz ft0 r_b false]] (funK 1 [.gc, .ifC 0 1 [39] ft1, .fzC 0 2 ft0, .gc] K) := (F10_eq fu _ _ _ _).trans (by kernel_rfl)

theorem s10 (fu : Nat) : Tells Tryd.prog 10 (t10 fu) := by
  refine ufun_sound (T := ⟨(tb9 fu), pc10 fu⟩) (m := 1) (gout := [.gc, .ifC 0 1 [39] ft1, .fzC 0 2 ft0, .gc]) (k := 300) (tb9_sound fu) (fun fn body hf hb => ?_) (fun R args s K r h => ?_) (fun R args s K r h => ?_)
  · have hc : body = code10 := by
      have h1 : Tryd.prog.funcs[10]? = some Tryd.f10 := rfl
      rw [h1] at hf; cases hf
      have h2 : Tryd.f10.body = some code10 := rfl
      rw [h2] at hb; cases hb; rfl
    subst hc
    exact SoundPc.none _ _ _
  · unfold t10 at h; split at h
    · rfl
    · cases h
  · unfold t10 at h; split at h
    case h_2 => cases h
    split at h
    case h_2 => cases h
    rename_i hq
    have hq := natsEq_eq _ _ hq
    subst hq
    split at h
    case h_2 => cases h
    rename_i hq
    have hq := FT.sames_eq _ _ hq
    subst hq
    split at h
    case h_2 => cases h
    rename_i hq
    have hq := FT.sames_eq _ _ hq
    subst hq
    exact (e10 R K fu _ _ _).symm.trans h

noncomputable def tb10 (fu : Nat) : FuncId → Option (Bool × ToldF) := fun f => match Nat.beq f 10 with
  | true => some (false, ghG [.gc, .ifC 0 1 [39] ft1, .fzC 0 2 ft0, .gc] (t10 fu))
  | false => (tb9 fu) f
theorem tb10_sound (fu : Nat) : SoundF' Tryd.prog (tb10 fu) := by
  intro f own told h
  unfold tb10 at h
  split at h
  · rename_i hb
    cases h
    have := Nat.eq_of_beq_eq_true hb
    subst this
    exact ghG_sound (s10 fu)
  · exact (tb9_sound fu) f own told h

end Go.Proofs.YtbeiflhnogedeaaDoor.V

/- Printed by ugen: (*daisychain/coil.Reader).Err -/
namespace Go.Proofs.YtbeiflhnogedeaaDoor.V
set_option maxRecDepth 100000
set_option maxHeartbeats 4000000


noncomputable def code8 : Code := match Tryd.f8.body with | some c => c | none => .skip

noncomputable def Fb8 {R : Type} (fu : Nat) (r_place_at : Int) (r_place_err : D) (r_b : List (List D)) (k0 : Option R) : Option R :=
  (k0)

noncomputable def F8 {R : Type} (fu : Nat) (r_place_at : Int) (r_place_err : D) (r_b : List (List D)) (k0 : Option R) : Option R := shut (@Fb8 R) fu r_place_at r_place_err r_b k0
theorem F8_eq {R : Type} (fu : Nat) (r_place_at : Int) (r_place_err : D) (r_b : List (List D)) (k0 : Option R) : F8 fu r_place_at r_place_err r_b k0 = Fb8 fu r_place_at r_place_err r_b k0 := by unfold F8; rw [shut_eq]

noncomputable def pc8 (fu : Nat) : Nat → Option ToldP := fun _ => none
noncomputable def t8 (fu : Nat) : ToldF := fun _ args s K => match args, s with
  | [.ptr 0 0], [.obj [.int .i64 r_place_at, .ifz zq0 zq1 r_place_err, .fz zq2 r_b false]] => (match natsEq zq0 [39] with | true => (match FT.sames zq1 ft1 with | true => (match FT.sames zq2 ft0 with | true => F8 fu r_place_at r_place_err r_b (K (.ifz [39] ft1 (r_place_err)) [.obj [.int .i64 (r_place_at), .ifz [39] ft1 (r_place_err), .fz ft0 (r_b) false]]) | false => none) | false => none) | false => none)
  | _, _ => none

theorem e8 (R : Type) (K : UV → USt → Option R) (fu : Nat) (r_place_at : Int) (r_place_err : D) (r_b : List (List D)) :
    F8 fu r_place_at r_place_err r_b (K (.ifz [39] ft1 (r_place_err)) [.obj [.int .i64 (r_place_at), .ifz [39] ft1 (r_place_err), .fz ft0 (r_b) false]]) = ufun Tryd.prog ⟨(tb10 fu), pc8 fu⟩ 300 8 [.ptr 0 0] [.obj [.int .i64 r_place_at, .ifz [39] ft1 r_place_err, .fz ft0 r_b false]] (funK 1 [.gc, .ifC 0 1 [39] ft1, .fzC 0 2 ft0, .gc] K) := (F8_eq fu _ _ _ _).trans (by kernel_rfl)

theorem s8 (fu : Nat) : Tells Tryd.prog 8 (t8 fu) := by
  refine ufun_sound (T := ⟨(tb10 fu), pc8 fu⟩) (m := 1) (gout := [.gc, .ifC 0 1 [39] ft1, .fzC 0 2 ft0, .gc]) (k := 300) (tb10_sound fu) (fun fn body hf hb => ?_) (fun R args s K r h => ?_) (fun R args s K r h => ?_)
  · have hc : body = code8 := by
      have h1 : Tryd.prog.funcs[8]? = some Tryd.f8 := rfl
      rw [h1] at hf; cases hf
      have h2 : Tryd.f8.body = some code8 := rfl
      rw [h2] at hb; cases hb; rfl
    subst hc
    exact SoundPc.none _ _ _
  · unfold t8 at h; split at h
    · rfl
    · cases h
  · unfold t8 at h; split at h
    case h_2 => cases h
    split at h
    case h_2 => cases h
    rename_i hq
    have hq := natsEq_eq _ _ hq
    subst hq
    split at h
    case h_2 => cases h
    rename_i hq
    have hq := FT.sames_eq _ _ hq
    subst hq
    split at h
    case h_2 => cases h
    rename_i hq
    have hq := FT.sames_eq _ _ hq
    subst hq
    exact (e8 R K fu _ _ _).symm.trans h

noncomputable def tb8 (fu : Nat) : FuncId → Option (Bool × ToldF) := fun f => match Nat.beq f 8 with
  | true => some (false, ghG [.gc, .ifC 0 1 [39] ft1, .fzC 0 2 ft0, .gc] (t8 fu))
  | false => (tb10 fu) f
theorem tb8_sound (fu : Nat) : SoundF' Tryd.prog (tb8 fu) := by
  intro f own told h
  unfold tb8 at h
  split at h
  · rename_i hb
    cases h
    have := Nat.eq_of_beq_eq_true hb
    subst this
    exact ghG_sound (s8 fu)
  · exact (tb10_sound fu) f own told h

end Go.Proofs.YtbeiflhnogedeaaDoor.V

/- Printed by ugen: (*daisychain/coil.Reader).Text -/
namespace Go.Proofs.YtbeiflhnogedeaaDoor.V
set_option maxRecDepth 100000
set_option maxHeartbeats 4000000


noncomputable def code11 : Code := match Tryd.f11.body with | some c => c | none => .skip

noncomputable def Fb11 {R : Type} (fu : Nat) (most : Int) (r_place_at : Int) (r_place_err : D) (r_b : List (List D)) (k0 : ByteArray → Int → D → Option R) : Option R :=
  F23 fu r_place_at r_place_at r_place_err r_b fun o_0 o_1 o_2 => bif !!o_2.some? then (k0 ((ByteArray.mk #[])) o_1 o_2) else bif decide (most < o_0) then (k0 ((ByteArray.mk #[])) r_place_at (D.row [[D.int 39, D.row [[D.int r_place_at, D.row [[D.int 36, D.int 2]]]]]])) else F10 fu o_1 o_2 r_b fun o_3 => bif decide (o_3 < o_0) then (k0 ((ByteArray.mk #[])) r_place_at (D.row [[D.int 39, D.row [[D.int r_place_at, D.row [[D.int 36, D.int 3]]]]]])) else bif decide (0 ≤ IntKind.i64.wrap (IntKind.i64.wrap (o_1 + o_0) - o_0) ∧ IntKind.i64.wrap (IntKind.i64.wrap (o_1 + o_0) - o_0) ≤ IntKind.i64.wrap (o_1 + o_0)) && upTo (IntKind.i64.wrap (o_1 + o_0)) r_b.length then (k0 (strOf (part r_b (IntKind.i64.wrap (IntKind.i64.wrap (o_1 + o_0) - o_0)).toNat (IntKind.i64.wrap (o_1 + o_0)).toNat)) (IntKind.i64.wrap (o_1 + o_0)) o_2) else none

noncomputable def F11 {R : Type} (fu : Nat) (most : Int) (r_place_at : Int) (r_place_err : D) (r_b : List (List D)) (k0 : ByteArray → Int → D → Option R) : Option R := shut (@Fb11 R) fu most r_place_at r_place_err r_b k0
theorem F11_eq {R : Type} (fu : Nat) (most : Int) (r_place_at : Int) (r_place_err : D) (r_b : List (List D)) (k0 : ByteArray → Int → D → Option R) : F11 fu most r_place_at r_place_err r_b k0 = Fb11 fu most r_place_at r_place_err r_b k0 := by unfold F11; rw [shut_eq]

noncomputable def pc11 (fu : Nat) : Nat → Option ToldP := fun _ => none
noncomputable def t11 (fu : Nat) : ToldF := fun _ args s K => match args, s with
  | [.ptr 0 0, .int .i64 most], [.obj [.int .i64 r_place_at, .ifz zq0 zq1 r_place_err, .fz zq2 r_b false]] => (match natsEq zq0 [39] with | true => (match FT.sames zq1 ft1 with | true => (match FT.sames zq2 ft0 with | true => F11 fu most r_place_at r_place_err r_b (fun o_ o_1 o_2 => K (.str o_) [.obj [.int .i64 o_1, .ifz [39] ft1 o_2, .fz ft0 (r_b) false]]) | false => none) | false => none) | false => none)
  | _, _ => none

theorem e11 (R : Type) (K : UV → USt → Option R) (fu : Nat) (most : Int) (r_place_at : Int) (r_place_err : D) (r_b : List (List D)) :
    F11 fu most r_place_at r_place_err r_b (fun o_ o_1 o_2 => K (.str o_) [.obj [.int .i64 o_1, .ifz [39] ft1 o_2, .fz ft0 (r_b) false]]) = ufun Tryd.prog ⟨(tb8 fu), pc11 fu⟩ 300 11 [.ptr 0 0, .int .i64 most] [.obj [.int .i64 r_place_at, .ifz [39] ft1 r_place_err, .fz ft0 r_b false]] (funK 1 [.gc, .ifC 0 1 [39] ft1, .fzC 0 2 ft0, .gc] K) := (F11_eq fu _ _ _ _ _).trans (by kernel_rfl)

theorem s11 (fu : Nat) : Tells Tryd.prog 11 (t11 fu) := by
  refine ufun_sound (T := ⟨(tb8 fu), pc11 fu⟩) (m := 1) (gout := [.gc, .ifC 0 1 [39] ft1, .fzC 0 2 ft0, .gc]) (k := 300) (tb8_sound fu) (fun fn body hf hb => ?_) (fun R args s K r h => ?_) (fun R args s K r h => ?_)
  · have hc : body = code11 := by
      have h1 : Tryd.prog.funcs[11]? = some Tryd.f11 := rfl
      rw [h1] at hf; cases hf
      have h2 : Tryd.f11.body = some code11 := rfl
      rw [h2] at hb; cases hb; rfl
    subst hc
    exact SoundPc.none _ _ _
  · unfold t11 at h; split at h
    · rfl
    · cases h
  · unfold t11 at h; split at h
    case h_2 => cases h
    split at h
    case h_2 => cases h
    rename_i hq
    have hq := natsEq_eq _ _ hq
    subst hq
    split at h
    case h_2 => cases h
    rename_i hq
    have hq := FT.sames_eq _ _ hq
    subst hq
    split at h
    case h_2 => cases h
    rename_i hq
    have hq := FT.sames_eq _ _ hq
    subst hq
    exact (e11 R K fu _ _ _ _).symm.trans h

noncomputable def tb11 (fu : Nat) : FuncId → Option (Bool × ToldF) := fun f => match Nat.beq f 11 with
  | true => some (false, ghG [.gc, .ifC 0 1 [39] ft1, .fzC 0 2 ft0, .gc] (t11 fu))
  | false => (tb8 fu) f
theorem tb11_sound (fu : Nat) : SoundF' Tryd.prog (tb11 fu) := by
  intro f own told h
  unfold tb11 at h
  split at h
  · rename_i hb
    cases h
    have := Nat.eq_of_beq_eq_true hb
    subst this
    exact ghG_sound (s11 fu)
  · exact (tb8_sound fu) f own told h

end Go.Proofs.YtbeiflhnogedeaaDoor.V

/- Printed by ugen: (*daisychain/coil.Reader).Nums -/
namespace Go.Proofs.YtbeiflhnogedeaaDoor.V
set_option maxRecDepth 100000
set_option maxHeartbeats 4000000

abbrev ft2 : List FT := [FT.int IntKind.i64]

noncomputable def code12 : Code := match Tryd.f12.body with | some c => c | none => .skip
theorem a12_506 : codeAt code12 506 = some (.loop (loopBody (codeAt code12 506))) := by kernel_rfl
noncomputable def F12_506 {R : Type} (fu : Nat) (from_ : Int) (n_ : Int) (r2 : List (List D)) : Nat → Int → Int → D → (List (List D)) → (Int → D → (List (List D)) → Option R) → Option R
  | 0, _, _, _, _, _ => none
  | n + 1, k_, r, r1, out, k0 => bif decide (k_ < n_) then bif !r1.some? then F23 fu from_ r r1 r2 fun o_0 o_1 o_2 => bif fits (out.length + 1) 8 then (F12_506 fu from_ n_ r2 n (IntKind.i64.wrap (k_ + 1)) o_1 o_2 (out ++ [[D.int o_0]]) k0) else none else (k0 r r1 out) else (k0 r r1 out)

noncomputable def t12_506 (fu n : Nat) : ToldP := fun _ e s K => match e, s with
  | [.ptr 0 0, .int .i64 from_, .int .i64 n_, .own 1, .int .i64 k_], [.obj [.int .i64 r, .ifz zq0 zq1 r1, .fz zq2 r2 false], .row zq3 out] => (match natsEq zq0 [39] with | true => (match FT.sames zq1 ft1 with | true => (match FT.sames zq2 ft0 with | true => (match FT.sames zq3 ft2 with | true => F12_506 fu from_ n_ r2 n k_ r r1 out (fun o_ o_1 o_2 => K (.exit 0) (unpackM (bitsM 8 0x81) [.ptr 0 0, .own 1]) [.obj [.int .i64 o_, .ifz [39] ft1 o_1, .fz ft0 (r2) false], .row ft2 o_2]) | false => none) | false => none) | false => none) | false => none)
  | _, _ => none

noncomputable def pc12_506 (fu : Nat) : Nat → Option ToldP := fun _ => none
theorem e12_506 (fu n : Nat) (R : Type) (K : VExit → UEnv → USt → Option R) (from_ : Int) (n_ : Int) (k_ : Int) (r : Int) (r1 : D) (r2 : List (List D)) (out : List (List D)) :
    F12_506 fu from_ n_ r2 (n + 1) k_ r r1 out (fun o_ o_1 o_2 => K (.exit 0) (unpackM (bitsM 8 0x81) [.ptr 0 0, .own 1]) [.obj [.int .i64 o_, .ifz [39] ft1 o_1, .fz ft0 (r2) false], .row ft2 o_2]) = uexec Tryd.prog (tb11 fu) 300 (pc12_506 fu) 1012 (loopBody (codeAt code12 506)) (unpackM (bitsM 9 0x1e1) [.ptr 0 0, .int .i64 from_, .int .i64 n_, .own 1, .int .i64 k_]) [.obj [.int .i64 r, .ifz [39] ft1 r1, .fz ft0 r2 false], .row ft2 out] (loopK 1 [.live (bitsM 9 0x1e1), .ownP 7 [] ft2, .gc, .ifC 0 1 [39] ft1, .gc] [.live (bitsM 8 0x91), .gc] (pkP (bitsM 9 0x1e1) (t12_506 fu n)) K) := by kernel_rfl

theorem p12_506 (fu : Nat) : SoundPc Tryd.prog 1 code12 (pc12_506 fu) := SoundPc.none _ _ _
theorem s12_506 (fu : Nat) : ∀ n, SoundP Tryd.prog 1 (.loop (loopBody (codeAt code12 506))) (pkP (bitsM 9 0x1e1) (t12_506 fu n)) := by
  refine loopP_sound (gin := [.live (bitsM 9 0x1e1), .ownP 7 [] ft2, .gc, .ifC 0 1 [39] ft1, .gc]) (gout := [.live (bitsM 8 0x91), .gc]) (k := 300) (tb11_sound fu) (p12_506 fu) (by decide) a12_506 (fun R e s K => ?_) (fun n R e s K r h => ?_)
  · unfold t12_506; repeat' split
    all_goals rfl
  · unfold t12_506 at h; split at h
    case h_2 => cases h
    split at h
    case h_2 => cases h
    rename_i hq
    have hq := natsEq_eq _ _ hq
    subst hq
    split at h
    case h_2 => cases h
    rename_i hq
    have hq := FT.sames_eq _ _ hq
    subst hq
    split at h
    case h_2 => cases h
    rename_i hq
    have hq := FT.sames_eq _ _ hq
    subst hq
    split at h
    case h_2 => cases h
    rename_i hq
    have hq := FT.sames_eq _ _ hq
    subst hq
    exact (e12_506 fu n R K _ _ _ _ _ _ _).symm.trans h


noncomputable def Fb12 {R : Type} (fu : Nat) (most : Int) (r_place_at : Int) (r_place_err : D) (r_b : List (List D)) (k0 : Int → D → (List (List D)) → Option R) : Option R :=
  F23 fu r_place_at r_place_at r_place_err r_b fun o_0 o_1 o_2 => bif !o_2.some? then bif decide (most < o_0) then F12_506 fu r_place_at o_0 r_b fu 0 r_place_at (D.row [[D.int 39, D.row [[D.int r_place_at, D.row [[D.int 36, D.int 2]]]]]]) [] fun o_3 o_4 o_5 => bif !!o_4.some? then (k0 o_3 o_4 []) else (k0 o_3 o_4 o_5) else F12_506 fu r_place_at o_0 r_b fu 0 o_1 o_2 [] fun o_6 o_7 o_8 => bif !!o_7.some? then (k0 o_6 o_7 []) else (k0 o_6 o_7 o_8) else F12_506 fu r_place_at o_0 r_b fu 0 o_1 o_2 [] fun o_9 o_10 o_11 => bif !!o_10.some? then (k0 o_9 o_10 []) else (k0 o_9 o_10 o_11)

noncomputable def F12 {R : Type} (fu : Nat) (most : Int) (r_place_at : Int) (r_place_err : D) (r_b : List (List D)) (k0 : Int → D → (List (List D)) → Option R) : Option R := shut (@Fb12 R) fu most r_place_at r_place_err r_b k0
theorem F12_eq {R : Type} (fu : Nat) (most : Int) (r_place_at : Int) (r_place_err : D) (r_b : List (List D)) (k0 : Int → D → (List (List D)) → Option R) : F12 fu most r_place_at r_place_err r_b k0 = Fb12 fu most r_place_at r_place_err r_b k0 := by unfold F12; rw [shut_eq]

noncomputable def pc12 (fu : Nat) : Nat → Option ToldP := fun p => match Nat.beq p 506 with | true => some (ghP 1 [.live (bitsM 9 0x1e1), .ownP 7 [] ft2, .gc, .ifC 0 1 [39] ft1, .gc] (pkP (bitsM 9 0x1e1) (t12_506 fu fu))) | false => none
noncomputable def t12 (fu : Nat) : ToldF := fun _ args s K => match args, s with
  | [.ptr 0 0, .int .i64 most], [.obj [.int .i64 r_place_at, .ifz zq0 zq1 r_place_err, .fz zq2 r_b false]] => (match natsEq zq0 [39] with | true => (match FT.sames zq1 ft1 with | true => (match FT.sames zq2 ft0 with | true => F12 fu most r_place_at r_place_err r_b (fun o_ o_1 o_2 => K (.own 1) [.obj [.int .i64 o_, .ifz [39] ft1 o_1, .fz ft0 (r_b) false], .row ft2 o_2]) | false => none) | false => none) | false => none)
  | _, _ => none

theorem e12 (R : Type) (K : UV → USt → Option R) (fu : Nat) (most : Int) (r_place_at : Int) (r_place_err : D) (r_b : List (List D)) :
    F12 fu most r_place_at r_place_err r_b (fun o_ o_1 o_2 => K (.own 1) [.obj [.int .i64 o_, .ifz [39] ft1 o_1, .fz ft0 (r_b) false], .row ft2 o_2]) = ufun Tryd.prog ⟨(tb11 fu), pc12 fu⟩ 300 12 [.ptr 0 0, .int .i64 most] [.obj [.int .i64 r_place_at, .ifz [39] ft1 r_place_err, .fz ft0 r_b false]] (funK 1 [.ownP 0 [] ft2, .gc, .ifC 0 1 [39] ft1, .fzC 0 2 ft0, .gc] K) := (F12_eq fu _ _ _ _ _).trans (by kernel_rfl)

theorem s12 (fu : Nat) : Tells Tryd.prog 12 (t12 fu) := by
  refine ufun_sound (T := ⟨(tb11 fu), pc12 fu⟩) (m := 1) (gout := [.ownP 0 [] ft2, .gc, .ifC 0 1 [39] ft1, .fzC 0 2 ft0, .gc]) (k := 300) (tb11_sound fu) (fun fn body hf hb => ?_) (fun R args s K r h => ?_) (fun R args s K r h => ?_)
  · have hc : body = code12 := by
      have h1 : Tryd.prog.funcs[12]? = some Tryd.f12 := rfl
      rw [h1] at hf; cases hf
      have h2 : Tryd.f12.body = some code12 := rfl
      rw [h2] at hb; cases hb; rfl
    subst hc
    exact fun p told h b hb => by
      replace h : pc12 fu p = some told := h
      unfold pc12 at h
      split at h
      · rename_i hp
        cases h
        have := Nat.eq_of_beq_eq_true hp
        subst this
        rw [a12_506] at hb
        cases hb
        exact ghP_sound (s12_506 fu _)
      ·
        cases h

  · unfold t12 at h; split at h
    · rfl
    · cases h
  · unfold t12 at h; split at h
    case h_2 => cases h
    split at h
    case h_2 => cases h
    rename_i hq
    have hq := natsEq_eq _ _ hq
    subst hq
    split at h
    case h_2 => cases h
    rename_i hq
    have hq := FT.sames_eq _ _ hq
    subst hq
    split at h
    case h_2 => cases h
    rename_i hq
    have hq := FT.sames_eq _ _ hq
    subst hq
    exact (e12 R K fu _ _ _ _).symm.trans h

noncomputable def tb12 (fu : Nat) : FuncId → Option (Bool × ToldF) := fun f => match Nat.beq f 12 with
  | true => some (false, ghG [.gc, .ifC 0 1 [39] ft1, .fzC 0 2 ft0, .gc] (t12 fu))
  | false => (tb11 fu) f
theorem tb12_sound (fu : Nat) : SoundF' Tryd.prog (tb12 fu) := by
  intro f own told h
  unfold tb12 at h
  split at h
  · rename_i hb
    cases h
    have := Nat.eq_of_beq_eq_true hb
    subst this
    exact ghG_sound (s12 fu)
  · exact (tb11_sound fu) f own told h

end Go.Proofs.YtbeiflhnogedeaaDoor.V

/- Printed by ugen: (*daisychain/coil.Reader).Done -/
namespace Go.Proofs.YtbeiflhnogedeaaDoor.V
set_option maxRecDepth 100000
set_option maxHeartbeats 4000000


noncomputable def code14 : Code := match Tryd.f14.body with | some c => c | none => .skip

noncomputable def Fb14 {R : Type} (fu : Nat) (r_place_at : Int) (r_place_err : D) (r_b : List (List D)) (k0 : D → Option R) : Option R :=
  bif !r_place_err.some? then F10 fu r_place_at r_place_err r_b fun o_0 => bif decide (0 < o_0) then (k0 (D.row [[D.int 39, D.row [[D.int r_place_at, D.row [[D.int 36, D.int 2]]]]]])) else (k0 r_place_err) else (k0 r_place_err)

noncomputable def F14 {R : Type} (fu : Nat) (r_place_at : Int) (r_place_err : D) (r_b : List (List D)) (k0 : D → Option R) : Option R := shut (@Fb14 R) fu r_place_at r_place_err r_b k0
theorem F14_eq {R : Type} (fu : Nat) (r_place_at : Int) (r_place_err : D) (r_b : List (List D)) (k0 : D → Option R) : F14 fu r_place_at r_place_err r_b k0 = Fb14 fu r_place_at r_place_err r_b k0 := by unfold F14; rw [shut_eq]

noncomputable def pc14 (fu : Nat) : Nat → Option ToldP := fun _ => none
noncomputable def t14 (fu : Nat) : ToldF := fun _ args s K => match args, s with
  | [.ptr 0 0], [.obj [.int .i64 r_place_at, .ifz zq0 zq1 r_place_err, .fz zq2 r_b false]] => (match natsEq zq0 [39] with | true => (match FT.sames zq1 ft1 with | true => (match FT.sames zq2 ft0 with | true => F14 fu r_place_at r_place_err r_b (fun o_ => K (.ifz [39] ft1 o_) [.obj [.int .i64 (r_place_at), .ifz [39] ft1 (r_place_err), .fz ft0 (r_b) false]]) | false => none) | false => none) | false => none)
  | _, _ => none

theorem e14 (R : Type) (K : UV → USt → Option R) (fu : Nat) (r_place_at : Int) (r_place_err : D) (r_b : List (List D)) :
    F14 fu r_place_at r_place_err r_b (fun o_ => K (.ifz [39] ft1 o_) [.obj [.int .i64 (r_place_at), .ifz [39] ft1 (r_place_err), .fz ft0 (r_b) false]]) = ufun Tryd.prog ⟨(tb12 fu), pc14 fu⟩ 300 14 [.ptr 0 0] [.obj [.int .i64 r_place_at, .ifz [39] ft1 r_place_err, .fz ft0 r_b false]] (funK 1 [.ifP 0 [] [39] ft1, .gc, .ifC 0 1 [39] ft1, .fzC 0 2 ft0, .gc] K) := (F14_eq fu _ _ _ _).trans (by kernel_rfl)

theorem s14 (fu : Nat) : Tells Tryd.prog 14 (t14 fu) := by
  refine ufun_sound (T := ⟨(tb12 fu), pc14 fu⟩) (m := 1) (gout := [.ifP 0 [] [39] ft1, .gc, .ifC 0 1 [39] ft1, .fzC 0 2 ft0, .gc]) (k := 300) (tb12_sound fu) (fun fn body hf hb => ?_) (fun R args s K r h => ?_) (fun R args s K r h => ?_)
  · have hc : body = code14 := by
      have h1 : Tryd.prog.funcs[14]? = some Tryd.f14 := rfl
      rw [h1] at hf; cases hf
      have h2 : Tryd.f14.body = some code14 := rfl
      rw [h2] at hb; cases hb; rfl
    subst hc
    exact SoundPc.none _ _ _
  · unfold t14 at h; split at h
    · rfl
    · cases h
  · unfold t14 at h; split at h
    case h_2 => cases h
    split at h
    case h_2 => cases h
    rename_i hq
    have hq := natsEq_eq _ _ hq
    subst hq
    split at h
    case h_2 => cases h
    rename_i hq
    have hq := FT.sames_eq _ _ hq
    subst hq
    split at h
    case h_2 => cases h
    rename_i hq
    have hq := FT.sames_eq _ _ hq
    subst hq
    exact (e14 R K fu _ _ _).symm.trans h

noncomputable def tb14 (fu : Nat) : FuncId → Option (Bool × ToldF) := fun f => match Nat.beq f 14 with
  | true => some (false, ghG [.gc, .ifC 0 1 [39] ft1, .fzC 0 2 ft0, .gc] (t14 fu))
  | false => (tb12 fu) f
theorem tb14_sound (fu : Nat) : SoundF' Tryd.prog (tb14 fu) := by
  intro f own told h
  unfold tb14 at h
  split at h
  · rename_i hb
    cases h
    have := Nat.eq_of_beq_eq_true hb
    subst this
    exact ghG_sound (s14 fu)
  · exact (tb12_sound fu) f own told h

end Go.Proofs.YtbeiflhnogedeaaDoor.V

/- Printed by ugen: daisychain/daisychainlaw01.awake -/
namespace Go.Proofs.YtbeiflhnogedeaaDoor.V
set_option maxRecDepth 100000
set_option maxHeartbeats 4000000


noncomputable def code5 : Code := match Tryd.f5.body with | some c => c | none => .skip

noncomputable def Fb5 {R : Type} (fu : Nat) (k0 : Option R) : Option R :=
  (k0)

noncomputable def F5 {R : Type} (fu : Nat) (k0 : Option R) : Option R := shut (@Fb5 R) fu k0
theorem F5_eq {R : Type} (fu : Nat) (k0 : Option R) : F5 fu k0 = Fb5 fu k0 := by unfold F5; rw [shut_eq]

noncomputable def pc5 (fu : Nat) : Nat → Option ToldP := fun _ => none
noncomputable def t5 (fu : Nat) : ToldF := fun _ args s K => match args, s with
  | [], [] => F5 fu  (K (.bool (true)) [])
  | _, _ => none

theorem e5 (R : Type) (K : UV → USt → Option R) (fu : Nat) :
    F5 fu  (K (.bool (true)) []) = ufun Tryd.prog ⟨(tb22 fu), pc5 fu⟩ 300 5 [] [] (funK 0 [.gc] K) := (F5_eq fu _).trans (by kernel_rfl)

theorem s5 (fu : Nat) : Tells Tryd.prog 5 (t5 fu) := by
  refine ufun_sound (T := ⟨(tb22 fu), pc5 fu⟩) (m := 0) (gout := [.gc]) (k := 300) (tb22_sound fu) (fun fn body hf hb => ?_) (fun R args s K r h => ?_) (fun R args s K r h => ?_)
  · have hc : body = code5 := by
      have h1 : Tryd.prog.funcs[5]? = some Tryd.f5 := rfl
      rw [h1] at hf; cases hf
      have h2 : Tryd.f5.body = some code5 := rfl
      rw [h2] at hb; cases hb; rfl
    subst hc
    exact SoundPc.none _ _ _
  · unfold t5 at h; split at h
    · rfl
    · cases h
  · unfold t5 at h; split at h
    case h_2 => cases h
    exact (e5 R K fu).symm.trans h

noncomputable def tb5 (fu : Nat) : FuncId → Option (Bool × ToldF) := fun f => match Nat.beq f 5 with
  | true => some (false, ghG [] (t5 fu))
  | false => (tb14 fu) f
theorem tb5_sound (fu : Nat) : SoundF' Tryd.prog (tb5 fu) := by
  intro f own told h
  unfold tb5 at h
  split at h
  · rename_i hb
    cases h
    have := Nat.eq_of_beq_eq_true hb
    subst this
    exact ghG_sound (s5 fu)
  · exact (tb14_sound fu) f own told h

end Go.Proofs.YtbeiflhnogedeaaDoor.V

/- Printed by ugen: daisychain/daisychainlaw01.CoilStops -/
namespace Go.Proofs.YtbeiflhnogedeaaDoor.V
set_option maxRecDepth 100000
set_option maxHeartbeats 4000000

abbrev ft3 : List FT := [FT.int IntKind.i64, FT.int IntKind.i64]

noncomputable def code3 : Code := match Tryd.f3.body with | some c => c | none => .skip
theorem a3_250 : codeAt code3 250 = some (.loop (loopBody (codeAt code3 250))) := by kernel_rfl
noncomputable def F3_250 {R : Type} (fu : Nat) (x : Int) (r2 : List (List D)) : Nat → Int → Int → D → (Int → D → Option R) → (Int → D → Option R) → Option R
  | 0, _, _, _, _, _ => none
  | n + 1, x1, r, r1, k0, k1 => bif decide (x1 < x) then F7 fu r r1 r2 fun o_0 o_1 o_2 => bif decide (o_0 < 0) then (k0 o_1 o_2) else (F3_250 fu x r2 n (IntKind.i64.wrap (x1 + 1)) o_1 o_2 k0 k1) else (k1 r r1)

noncomputable def t3_250 (fu n : Nat) : ToldP := fun _ e s K => match e, s with
  | [.fz zq0 l false, .ptr 0 0, .int .i64 x, .int .i64 x1], [.obj [.int .i64 r, .ifz zq1 zq2 r1, .fz zq3 r2 false]] => (match FT.sames zq0 ft3 with | true => (match natsEq zq1 [39] with | true => (match FT.sames zq2 ft1 with | true => (match FT.sames zq3 ft0 with | true => F3_250 fu x r2 n x1 r r1 (fun o_ o_1 => K .ret (unpackM (bitsM 6 0x32) [.fz ft3 (l) false, .bool (false), .ptr 0 0]) [.obj [.int .i64 o_, .ifz [39] ft1 o_1, .fz ft0 (r2) false]]) (fun o_ o_1 => K (.exit 0) (unpackM (bitsM 6 0x22) [.fz ft3 (l) false, .ptr 0 0]) [.obj [.int .i64 o_, .ifz [39] ft1 o_1, .fz ft0 (r2) false]]) | false => none) | false => none) | false => none) | false => none)
  | _, _ => none

noncomputable def pc3_250 (fu : Nat) : Nat → Option ToldP := fun _ => none
theorem e3_250 (fu n : Nat) (R : Type) (K : VExit → UEnv → USt → Option R) (l : List (List D)) (x : Int) (x1 : Int) (r : Int) (r1 : D) (r2 : List (List D)) :
    F3_250 fu x r2 (n + 1) x1 r r1 (fun o_ o_1 => K .ret (unpackM (bitsM 6 0x32) [.fz ft3 (l) false, .bool (false), .ptr 0 0]) [.obj [.int .i64 o_, .ifz [39] ft1 o_1, .fz ft0 (r2) false]]) (fun o_ o_1 => K (.exit 0) (unpackM (bitsM 6 0x22) [.fz ft3 (l) false, .ptr 0 0]) [.obj [.int .i64 o_, .ifz [39] ft1 o_1, .fz ft0 (r2) false]]) = uexec Tryd.prog (tb5 fu) 300 (pc3_250 fu) 500 (loopBody (codeAt code3 250)) (unpackM (bitsM 34 0x300000022) [.fz ft3 l false, .ptr 0 0, .int .i64 x, .int .i64 x1]) [.obj [.int .i64 r, .ifz [39] ft1 r1, .fz ft0 r2 false]] (loopK 0 [.live (bitsM 34 0x300000022), .fzP 1 [] ft3, .gc, .fzC 0 2 ft0, .gc] [.live (bitsM 6 0x32), .gc] (pkP (bitsM 34 0x300000022) (t3_250 fu n)) K) := by kernel_rfl

theorem p3_250 (fu : Nat) : SoundPc Tryd.prog 0 code3 (pc3_250 fu) := SoundPc.none _ _ _
theorem s3_250 (fu : Nat) : ∀ n, SoundP Tryd.prog 0 (.loop (loopBody (codeAt code3 250))) (pkP (bitsM 34 0x300000022) (t3_250 fu n)) := by
  refine loopP_sound (gin := [.live (bitsM 34 0x300000022), .fzP 1 [] ft3, .gc, .fzC 0 2 ft0, .gc]) (gout := [.live (bitsM 6 0x32), .gc]) (k := 300) (tb5_sound fu) (p3_250 fu) (by decide) a3_250 (fun R e s K => ?_) (fun n R e s K r h => ?_)
  · unfold t3_250; repeat' split
    all_goals rfl
  · unfold t3_250 at h; split at h
    case h_2 => cases h
    split at h
    case h_2 => cases h
    rename_i hq
    have hq := FT.sames_eq _ _ hq
    subst hq
    split at h
    case h_2 => cases h
    rename_i hq
    have hq := natsEq_eq _ _ hq
    subst hq
    split at h
    case h_2 => cases h
    rename_i hq
    have hq := FT.sames_eq _ _ hq
    subst hq
    split at h
    case h_2 => cases h
    rename_i hq
    have hq := FT.sames_eq _ _ hq
    subst hq
    exact (e3_250 fu n R K _ _ _ _ _ _).symm.trans h

theorem a3_2042 : codeAt code3 2042 = some (.loop (loopBody (codeAt code3 2042))) := by kernel_rfl
noncomputable def F3_2042 {R : Type} (fu : Nat) (at_ : Int) (left : Int) (x : List (List D)) (x1 : Int) (r2 : List (List D)) : Nat → Int → Int → D → (Int → D → Option R) → (Int → D → Option R) → Option R
  | 0, _, _, _, _, _ => none
  | n + 1, x2, r, r1, k0, k1 => bif decide (x2 < x1) then bif within x2 x.length then bif decide ((cell 0 (elem x2.toNat x)).toInt = 0) then F7 fu r r1 r2 fun o_0 o_1 o_2 => bif !decide (o_0 = 0) then (k0 o_1 o_2) else F9 fu o_1 o_2 r2 (bif !decide (o_1 = at_) then (k0 o_1 o_2) else F10 fu o_1 o_2 r2 fun o_3 => bif !decide (o_3 = left) then (k0 o_1 o_2) else (F3_2042 fu at_ left x x1 r2 n (IntKind.i64.wrap (x2 + 1)) o_1 o_2 k0 k1)) else bif decide ((cell 0 (elem x2.toNat x)).toInt = 1) then F11 fu (cell 1 (elem x2.toNat x)).toInt r r1 r2 fun o_4 o_5 o_6 => bif !strEq o_4 (ByteArray.mk #[]) then (k0 o_5 o_6) else F9 fu o_5 o_6 r2 (bif !decide (o_5 = at_) then (k0 o_5 o_6) else F10 fu o_5 o_6 r2 fun o_7 => bif !decide (o_7 = left) then (k0 o_5 o_6) else (F3_2042 fu at_ left x x1 r2 n (IntKind.i64.wrap (x2 + 1)) o_5 o_6 k0 k1)) else F12 fu (cell 1 (elem x2.toNat x)).toInt r r1 r2 fun o_8 o_9 o_10 => bif decide (0 < ofN o_10.length) then (k0 o_8 o_9) else F9 fu o_8 o_9 r2 (bif !decide (o_8 = at_) then (k0 o_8 o_9) else F10 fu o_8 o_9 r2 fun o_11 => bif !decide (o_11 = left) then (k0 o_8 o_9) else (F3_2042 fu at_ left x x1 r2 n (IntKind.i64.wrap (x2 + 1)) o_8 o_9 k0 k1)) else none else (k1 r r1)

noncomputable def t3_2042 (fu n : Nat) : ToldP := fun _ e s K => match e, s with
  | [.ptr 0 0, .int .i64 at_, .int .i64 left, .fz zq0 x false, .int .i64 x1, .int .i64 x2], [.obj [.int .i64 r, .ifz zq1 zq2 r1, .fz zq3 r2 false]] => (match FT.sames zq0 ft3 with | true => (match natsEq zq1 [39] with | true => (match FT.sames zq2 ft1 with | true => (match FT.sames zq3 ft0 with | true => F3_2042 fu at_ left x x1 r2 n x2 r r1 (fun o_ o_1 => K .ret (unpackM (bitsM 6 0x30) [.bool (false), .ptr 0 0]) [.obj [.int .i64 o_, .ifz [39] ft1 o_1, .fz ft0 (r2) false]]) (fun o_ o_1 => K (.exit 2) (unpackM (bitsM 6 0x20) [.ptr 0 0]) [.obj [.int .i64 o_, .ifz [39] ft1 o_1, .fz ft0 (r2) false]]) | false => none) | false => none) | false => none) | false => none)
  | _, _ => none

noncomputable def pc3_2042 (fu : Nat) : Nat → Option ToldP := fun _ => none
theorem e3_2042 (fu n : Nat) (R : Type) (K : VExit → UEnv → USt → Option R) (at_ : Int) (left : Int) (x : List (List D)) (x1 : Int) (x2 : Int) (r : Int) (r1 : D) (r2 : List (List D)) :
    F3_2042 fu at_ left x x1 r2 (n + 1) x2 r r1 (fun o_ o_1 => K .ret (unpackM (bitsM 6 0x30) [.bool (false), .ptr 0 0]) [.obj [.int .i64 o_, .ifz [39] ft1 o_1, .fz ft0 (r2) false]]) (fun o_ o_1 => K (.exit 2) (unpackM (bitsM 6 0x20) [.ptr 0 0]) [.obj [.int .i64 o_, .ifz [39] ft1 o_1, .fz ft0 (r2) false]]) = uexec Tryd.prog (tb5 fu) 300 (pc3_2042 fu) 4084 (loopBody (codeAt code3 2042)) (unpackM (bitsM 49 0x1c000000000e0) [.ptr 0 0, .int .i64 at_, .int .i64 left, .fz ft3 x false, .int .i64 x1, .int .i64 x2]) [.obj [.int .i64 r, .ifz [39] ft1 r1, .fz ft0 r2 false]] (loopK 0 [.live (bitsM 49 0x1c000000000e0), .fzP 46 [] ft3, .gc, .fzC 0 2 ft0, .gc] [.live (bitsM 6 0x30), .gc] (pkP (bitsM 49 0x1c000000000e0) (t3_2042 fu n)) K) := by kernel_rfl

theorem p3_2042 (fu : Nat) : SoundPc Tryd.prog 0 code3 (pc3_2042 fu) := SoundPc.none _ _ _
theorem s3_2042 (fu : Nat) : ∀ n, SoundP Tryd.prog 0 (.loop (loopBody (codeAt code3 2042))) (pkP (bitsM 49 0x1c000000000e0) (t3_2042 fu n)) := by
  refine loopP_sound (gin := [.live (bitsM 49 0x1c000000000e0), .fzP 46 [] ft3, .gc, .fzC 0 2 ft0, .gc]) (gout := [.live (bitsM 6 0x30), .gc]) (k := 300) (tb5_sound fu) (p3_2042 fu) (by decide) a3_2042 (fun R e s K => ?_) (fun n R e s K r h => ?_)
  · unfold t3_2042; repeat' split
    all_goals rfl
  · unfold t3_2042 at h; split at h
    case h_2 => cases h
    split at h
    case h_2 => cases h
    rename_i hq
    have hq := FT.sames_eq _ _ hq
    subst hq
    split at h
    case h_2 => cases h
    rename_i hq
    have hq := natsEq_eq _ _ hq
    subst hq
    split at h
    case h_2 => cases h
    rename_i hq
    have hq := FT.sames_eq _ _ hq
    subst hq
    split at h
    case h_2 => cases h
    rename_i hq
    have hq := FT.sames_eq _ _ hq
    subst hq
    exact (e3_2042 fu n R K _ _ _ _ _ _ _ _).symm.trans h


noncomputable def Fb3 {R : Type} (fu : Nat) (b : List (List D)) (l : List (List D)) (k0 : Bool → Option R) : Option R :=
  bif decide (400 < ofN b.length) then F5 fu ((k0 true)) else bif decide (400 < ofN l.length) then F5 fu ((k0 true)) else bif fits (0 + b.length) 1 then bif fits (b.length + 1) 1 then F6 fu (b ++ [[D.int 128]]) fun o_0 => F3_250 fu (IntKind.i64.wrap (ofN b.length + 1)) (b ++ [[D.int 128]]) fu 0 0 o_0 (fun o_1 o_2 => (k0 false)) fun o_3 o_4 => F8 fu o_3 o_4 (b ++ [[D.int 128]]) (bif !o_4.some? then (k0 false) else F9 fu o_3 o_4 (b ++ [[D.int 128]]) (F10 fu o_3 o_4 (b ++ [[D.int 128]]) fun o_5 => F3_2042 fu o_3 o_5 l (ofN l.length) (b ++ [[D.int 128]]) fu 0 o_3 o_4 (fun o_6 o_7 => (k0 false)) fun o_8 o_9 => F14 fu o_8 o_9 (b ++ [[D.int 128]]) fun o_10 => bif codeOK 39 36 o_10 then F8 fu o_8 o_9 (b ++ [[D.int 128]]) (bif codeOK 39 36 o_9 then bif decide (codeD o_10 = codeD o_9) then F8 fu o_8 o_9 (b ++ [[D.int 128]]) (bif codeOK 39 36 o_9 then bif !decide (codeD o_9 = 0) then F5 fu ((k0 true)) else (k0 false) else none) else (k0 false) else none) else none)) else none else none

noncomputable def F3 {R : Type} (fu : Nat) (b : List (List D)) (l : List (List D)) (k0 : Bool → Option R) : Option R := shut (@Fb3 R) fu b l k0
theorem F3_eq {R : Type} (fu : Nat) (b : List (List D)) (l : List (List D)) (k0 : Bool → Option R) : F3 fu b l k0 = Fb3 fu b l k0 := by unfold F3; rw [shut_eq]

noncomputable def pc3 (fu : Nat) : Nat → Option ToldP := fun p => match Nat.beq p 250 with | true => some (ghP 0 [.live (bitsM 34 0x300000022), .fzP 1 [] ft3, .gc, .fzC 0 2 ft0, .gc] (pkP (bitsM 34 0x300000022) (t3_250 fu fu))) | false => match Nat.beq p 2042 with | true => some (ghP 0 [.live (bitsM 49 0x1c000000000e0), .fzP 46 [] ft3, .gc, .fzC 0 2 ft0, .gc] (pkP (bitsM 49 0x1c000000000e0) (t3_2042 fu fu))) | false => none
noncomputable def t3 (fu : Nat) : ToldF := fun _ args s K => match args, s with
  | [.fz zq0 b false, .fz zq1 l false], [] => (match FT.sames zq0 ft0 with | true => (match FT.sames zq1 ft3 with | true => F3 fu b l (fun o_ => K (.bool o_) []) | false => none) | false => none)
  | _, _ => none

theorem e3 (R : Type) (K : UV → USt → Option R) (fu : Nat) (b : List (List D)) (l : List (List D)) :
    F3 fu b l (fun o_ => K (.bool o_) []) = ufun Tryd.prog ⟨(tb5 fu), pc3 fu⟩ 300 3 [.fz ft0 b false, .fz ft3 l false] [] (funK 0 [.gc] K) := (F3_eq fu _ _ _).trans (by kernel_rfl)

theorem s3 (fu : Nat) : Tells Tryd.prog 3 (t3 fu) := by
  refine ufun_sound (T := ⟨(tb5 fu), pc3 fu⟩) (m := 0) (gout := [.gc]) (k := 300) (tb5_sound fu) (fun fn body hf hb => ?_) (fun R args s K r h => ?_) (fun R args s K r h => ?_)
  · have hc : body = code3 := by
      have h1 : Tryd.prog.funcs[3]? = some Tryd.f3 := rfl
      rw [h1] at hf; cases hf
      have h2 : Tryd.f3.body = some code3 := rfl
      rw [h2] at hb; cases hb; rfl
    subst hc
    exact fun p told h b hb => by
      replace h : pc3 fu p = some told := h
      unfold pc3 at h
      split at h
      · rename_i hp
        cases h
        have := Nat.eq_of_beq_eq_true hp
        subst this
        rw [a3_250] at hb
        cases hb
        exact ghP_sound (s3_250 fu _)
      ·
        split at h
        · rename_i hp
          cases h
          have := Nat.eq_of_beq_eq_true hp
          subst this
          rw [a3_2042] at hb
          cases hb
          exact ghP_sound (s3_2042 fu _)
        ·
          cases h

  · unfold t3 at h; split at h
    · rfl
    · cases h
  · unfold t3 at h; split at h
    case h_2 => cases h
    split at h
    case h_2 => cases h
    rename_i hq
    have hq := FT.sames_eq _ _ hq
    subst hq
    split at h
    case h_2 => cases h
    rename_i hq
    have hq := FT.sames_eq _ _ hq
    subst hq
    exact (e3 R K fu _ _).symm.trans h

noncomputable def tb3 (fu : Nat) : FuncId → Option (Bool × ToldF) := fun f => match Nat.beq f 3 with
  | true => some (false, ghG [.fzP 0 [] ft0, .fzP 1 [] ft3] (t3 fu))
  | false => (tb5 fu) f
theorem tb3_sound (fu : Nat) : SoundF' Tryd.prog (tb3 fu) := by
  intro f own told h
  unfold tb3 at h
  split at h
  · rename_i hb
    cases h
    have := Nat.eq_of_beq_eq_true hb
    subst this
    exact ghG_sound (s3 fu)
  · exact (tb5_sound fu) f own told h

end Go.Proofs.YtbeiflhnogedeaaDoor.V

/- From the plain law of function 3 to V's. -/
namespace Go.Proofs.YtbeiflhnogedeaaDoor.V

theorem law3 (fu : Nat) (H : ∀ (ds1 ds2 : List D), WFDs [FT.row 1 [FT.int IntKind.u8]] ds1 → WFDs [FT.row 16 [FT.int IntKind.i64, FT.int IntKind.i64]] ds2 → F3 fu ((cell 0 ds1).toRows) ((cell 0 ds2).toRows) (fun o => some o) = some true) : Law Tryd.prog 3 Tryd.f3.params.toList := by
  refine law_of_told (by kernel_rfl) (by kernel_rfl) seatX_sound (s3 fu) (fun dss hw => ?_)
  have hts : Tryd.f3.params.toList = [22, 23] := rfl
  rw [hts] at hw
  cases hw with
  | cons t1 ts1 fts1 ds1 dss1 hf1 hd1 hr1 =>
    have e1 : flat Tryd.prog 20 22 = some [FT.row 1 [FT.int IntKind.u8]] := by kernel_rfl
    rw [e1] at hf1; cases hf1
    cases hr1 with
    | cons t2 ts2 fts2 ds2 dss2 hf2 hd2 hr2 =>
      have e2 : flat Tryd.prog 20 23 = some [FT.row 16 [FT.int IntKind.i64, FT.int IntKind.i64]] := by kernel_rfl
      rw [e2] at hf2; cases hf2
      cases hr2
      have h1 : t3 fu Bool (argsU Tryd.prog Tryd.f3.params.toList [ds1, ds2]) [] boolK = F3 fu ((cell 0 ds1).toRows) ((cell 0 ds2).toRows) (fun o => some o) := by kernel_rfl
      exact h1.trans (H ds1 ds2 hd1 hd2)
end Go.Proofs.YtbeiflhnogedeaaDoor.V

/- Words that all plain proofs use. -/
namespace Go.Proofs.YtbeiflhnogedeaaDoor.V

theorem wrap_of {x : Int} (h0 : -9223372036854775808 ≤ x) (h1 : x ≤ 9223372036854775807) : IntKind.i64.wrap x = x := by
  rw [IntKind.wrap_i64]; omega

theorem wrap_succ {i : Nat} (h : i ≤ 9223372036854775806) : IntKind.i64.wrap ((i : Int) + 1) = ((i + 1 : Nat) : Int) := by rw [wrap_of (by omega) (by omega)]; rfl

theorem fits_of {n b : Nat} (hn : n ≤ 1000000) (hb : b ≤ 1000) : fits n b = true := by
  unfold fits maxBytes
  have : n * b ≤ 1000000 * 1000 := Nat.mul_le_mul hn hb
  exact decide_eq_true ⟨by omega, by omega⟩

theorem within_of {j n : Nat} (h : j < n) : within (j : Int) n = true := by
  unfold within; exact decide_eq_true ⟨by omega, by omega⟩

theorem within_int {j : Int} {n : Nat} (h0 : 0 ≤ j) (h : j < n) : within j n = true := by
  unfold within; exact decide_eq_true ⟨h0, by omega⟩

theorem lt_true {a b : Int} (h : a < b) : decide (a < b) = true := decide_eq_true h
theorem lt_false {a b : Int} (h : ¬ a < b) : decide (a < b) = false := decide_eq_false h
theorem le_true {a b : Int} (h : a ≤ b) : decide (a ≤ b) = true := decide_eq_true h
theorem le_false {a b : Int} (h : ¬ a ≤ b) : decide (a ≤ b) = false := decide_eq_false h
theorem eq_true {a b : Int} (h : a = b) : decide (a = b) = true := decide_eq_true h
theorem eq_false {a b : Int} (h : ¬ a = b) : decide (a = b) = false := decide_eq_false h

theorem strEq_refl (x : ByteArray) : strEq x x = true := by simp [strEq]

theorem elem_mem {i : Nat} {l : List (List D)} (h : i < l.length) : elem i l ∈ l := by
  unfold elem
  rw [List.getD_eq_getElem?_getD, List.getElem?_eq_getElem h]
  exact List.getElem_mem h

/-- Sizes of data as it comes. -/
theorem WFD.rows_len {bytes : Nat} {fts : List FT} {d : D} (h : WFD (.row bytes fts) d) : d.toRows.length * bytes ≤ reachBytes := by
  cases h with
  | nil => simp [D.toRows]
  | row _ _ rows hb hl hr => simp only [D.toRows]; first | exact hb | (simpa using hb)

theorem WFD.str_len {d : D} (h : WFD .str d) : d.toStr.size ≤ reachBytes := by
  cases h with
  | str s h => exact h

theorem WFD.rows {bytes : Nat} {fts : List FT} {d : D} (h : WFD (.row bytes fts) d) : ∀ r ∈ d.toRows, WFDs fts r := by
  cases h with
  | nil => intro r hr; cases hr
  | row _ _ rows hb hl hr =>
    intro r hm
    refine ⟨hl r hm, fun j ft d h1 h2 => hr r hm j ft d h1 h2⟩

theorem WFDs.cell {fts : List FT} {ds : List D} (h : WFDs fts ds) {j : Nat} {ft : FT} (hj : fts[j]? = some ft) : WFD ft (V.cell j ds) := by
  have hlt : j < ds.length := by rw [h.len]; exact (List.getElem?_eq_some_iff.1 hj).1
  have hd := List.getElem?_eq_getElem hlt
  unfold V.cell
  rw [List.getD_eq_getElem?_getD, hd]
  exact h.at_ j ft _ hj hd

theorem reach_lt : reachBytes < 140737488355328 := by decide

end Go.Proofs.YtbeiflhnogedeaaDoor.V

/- coil: what its reader tells of bytes that end amid a number. -/
namespace Go.Proofs.YtbeiflhnogedeaaDoor.V
variable {R : Type}

theorem ofInt_toNat {a : Nat} (h : a < 2 ^ 64) : (BitVec.ofInt 64 (a : Int)).toNat = a := by
  rw [BitVec.ofInt_natCast, BitVec.toNat_ofNat]; exact Nat.mod_eq_of_lt h

theorem or_sum {a b s : Nat} (ha : a < 2 ^ s) (hb : b * 2 ^ s + a < 2 ^ 64) : (BitVec.ofInt 64 (a : Int) ||| BitVec.ofInt 64 ((b * 2 ^ s : Nat) : Int)).toNat = a + b * 2 ^ s := by
  rw [BitVec.toNat_or, ofInt_toNat (by omega), ofInt_toNat (by omega), Nat.or_comm, ← Nat.shiftLeft_eq, ← Nat.shiftLeft_add_eq_or_of_lt ha]
  omega

theorem and127 {c : Nat} (h : c < 2 ^ 64) : (BitVec.ofInt 64 (c : Int) &&& BitVec.ofInt 64 127).toNat = c % 128 := by
  rw [BitVec.toNat_and, ofInt_toNat h, show (BitVec.ofInt 64 127).toNat = 2 ^ 7 - 1 by decide, Nat.and_two_pow_sub_one_eq_mod]

/-- One more digit. -/
theorem digit {acc c k : Nat} (hk : k ≤ 8) (hc : c < 256) (ha : acc < 2 ^ (7 * k)) (ht : c % 128 * 2 ^ (7 * k) + acc < 9223372036854775808) :
    IntKind.i64.wrap ↑(BitVec.ofInt IntKind.i64.bits (acc : Int) ||| BitVec.ofInt IntKind.i64.bits (IntKind.i64.wrap (IntKind.i64.wrap ↑(BitVec.ofInt IntKind.i64.bits (IntKind.i64.wrap (c : Int)) &&& BitVec.ofInt IntKind.i64.bits 127).toNat * 2 ^ min (IntKind.i64.wrap (7 * (k : Int))).toNat IntKind.i64.bits))).toNat = ((acc + c % 128 * 2 ^ (7 * k) : Nat) : Int) := by
  have e1 : IntKind.i64.wrap (7 * (k : Int)) = ((7 * k : Nat) : Int) := by rw [wrap_of (by omega) (by omega)]; push_cast; rfl
  have e2 : IntKind.i64.wrap (c : Int) = (c : Int) := wrap_of (by omega) (by omega)
  rw [e1, e2, show IntKind.i64.bits = 64 from rfl, Int.toNat_natCast, show min (7 * k) 64 = 7 * k by omega, and127 (by omega)]
  have e3 : IntKind.i64.wrap ((c % 128 : Nat) : Int) = ((c % 128 : Nat) : Int) := wrap_of (by omega) (by omega)
  rw [e3]
  have e4 : ((c % 128 : Nat) : Int) * 2 ^ (7 * k) = ((c % 128 * 2 ^ (7 * k) : Nat) : Int) := by push_cast; rfl
  rw [e4, wrap_of (x := ((c % 128 * 2 ^ (7 * k) : Nat) : Int)) (by omega) (by omega), or_sum ha (by omega)]
  exact wrap_of (by omega) (by omega)

/-- A fault, as data. -/
def faultD (p c : Int) : D := D.row [[D.int 39, D.row [[D.int p, D.row [[D.int 36, D.int c]]]]]]

def IsFault (d : D) : Prop := ∃ p c : Int, d = faultD p c ∧ (c = 2 ∨ c = 3)

theorem IsFault.some {d : D} (h : IsFault d) : d.some? = true := by obtain ⟨p, c, rfl, _⟩ := h; rfl
theorem IsFault.ok {d : D} (h : IsFault d) : codeOK 39 36 d = true := by obtain ⟨p, c, rfl, _⟩ := h; rfl
theorem IsFault.code {d : D} (h : IsFault d) : ¬ codeD d = 0 := by
  obtain ⟨p, c, rfl, h⟩ := h
  show ¬ c = 0
  omega

/-- Bytes that end with one that goes on. -/
structure Torn (B : List (List D)) : Prop where
  len : B.length ≤ 1000
  byte : ∀ i, i < B.length → ∃ c : Nat, c < 256 ∧ (cell 0 (elem i B)).toInt = (c : Int)
  last : ∀ i, i + 1 = B.length → 128 ≤ (cell 0 (elem i B)).toInt

theorem read_any (fu : Nat) (from_ : Int) (B : List (List D)) (hB : Torn B) (k0 : Int → Int → D → Option R) (k1 : Int → Option R) :
    ∀ (n acc k p : Nat), 10 ≤ k + n → k ≤ 9 → acc < 2 ^ (7 * k) →
      (∃ c : Int, (c = 2 ∨ c = 3) ∧ F23_58 fu from_ D.nil B n (acc : Int) (k : Int) (p : Int) k0 k1 = k0 0 from_ (faultD from_ c)) ∨
      (∃ a q : Nat, p < q ∧ q < B.length ∧ F23_58 fu from_ D.nil B n (acc : Int) (k : Int) (p : Int) k0 k1 = k0 (a : Int) (q : Int) D.nil) := by
  intro n
  induction n with
  | zero => intro acc k p h1 h2; omega
  | succ n ih =>
    intro acc k p h1 h2 h3
    unfold F23_58
    rw [show D.nil.some? = false from rfl]
    simp only [Bool.not_false, cond_true]
    by_cases hk : k = 9
    · rw [le_true (show (9 : Int) ≤ k by omega), cond_true]
      exact .inl ⟨2, .inl rfl, rfl⟩
    · rw [le_false (show ¬ (9 : Int) ≤ k by omega), cond_false]
      have hl := hB.len
      by_cases hp : p < B.length
      · rw [le_false (show ¬ ofN B.length ≤ (p : Int) by unfold ofN; omega), cond_false, within_of hp, cond_true, Int.toNat_natCast]
        obtain ⟨c, hc, he⟩ := hB.byte p hp
        rw [he, lt_false (show ¬ IntKind.i64.wrap (7 * (k : Int)) < 0 by rw [wrap_of (by omega) (by omega)]; omega), cond_false]
        have hpow : 0 < 2 ^ (7 * k) := Nat.pos_of_ne_zero (by simp)
        have hmod : c % 128 * 2 ^ (7 * k) + acc < 2 ^ (7 * (k + 1)) := by
          have e : 2 ^ (7 * (k + 1)) = 128 * 2 ^ (7 * k) := by rw [show 7 * (k + 1) = 7 + 7 * k by omega, Nat.pow_add]
          rw [e]
          have : c % 128 * 2 ^ (7 * k) ≤ 127 * 2 ^ (7 * k) := Nat.mul_le_mul_right _ (by omega)
          omega
        have htop : 2 ^ (7 * (k + 1)) ≤ 2 ^ 63 := Nat.pow_le_pow_right (by omega) (by omega)
        rw [digit (by omega) hc h3 (by omega)]
        rw [wrap_of (x := (c : Int)) (by omega) (by omega)]
        rw [wrap_succ (i := k) (by omega), wrap_succ (i := p) (by omega)]
        by_cases h128 : 128 ≤ c
        · rw [le_true (show (128 : Int) ≤ c by omega), cond_true]
          rcases ih (acc + c % 128 * 2 ^ (7 * k)) (k + 1) (p + 1) (by omega) (by omega) (by omega) with ⟨e, h4, h5⟩ | ⟨a, q, h4, h5, h6⟩
          · exact .inl ⟨e, h4, h5⟩
          · exact .inr ⟨a, q, by omega, h5, h6⟩
        · rw [le_false (show ¬ (128 : Int) ≤ c by omega), cond_false]
          have hq : p + 1 < B.length := by
            rcases Nat.lt_or_ge (p + 1) B.length with h | h
            · exact h
            · have := hB.last p (by omega)
              omega
          by_cases hz : c = 0
          · subst hz
            rw [eq_true (show ((0 : Nat) : Int) = 0 from rfl), cond_true]
            by_cases hk0 : 0 < k
            · rw [lt_true (show (0 : Int) < k by omega), cond_true]
              exact .inl ⟨2, .inl rfl, rfl⟩
            · rw [lt_false (show ¬ (0 : Int) < k by omega), cond_false]
              exact .inr ⟨_, p + 1, by omega, hq, rfl⟩
          · rw [eq_false (show ¬ (c : Int) = 0 by omega), cond_false]
            exact .inr ⟨_, p + 1, by omega, hq, rfl⟩
      · rw [le_true (show ofN B.length ≤ (p : Int) by unfold ofN; omega), cond_true]
        exact .inl ⟨3, .inr rfl, rfl⟩

/-- A reader that is spoiled reads no number. -/
theorem number_stays (fu : Nat) (hfu : 1 ≤ fu) (from_ at_ : Int) (B : List (List D)) {E : D} (hE : E.some? = true) (k : Int → Int → D → Option R) :
    F23 fu from_ at_ E B k = k 0 at_ E := by
  obtain ⟨n, rfl⟩ : ∃ n, fu = n + 1 := ⟨fu - 1, by omega⟩
  rw [F23_eq]
  unfold Fb23 F23_58
  rw [hE]
  rfl

theorem num_stays (fu : Nat) (hfu : 1 ≤ fu) (at_ : Int) (B : List (List D)) {E : D} (hE : E.some? = true) (k : Int → Int → D → Option R) :
    F7 fu at_ E B k = k 0 at_ E := by
  rw [F7_eq]
  exact number_stays fu hfu at_ at_ B hE k

theorem text_stays (fu : Nat) (hfu : 1 ≤ fu) (most at_ : Int) (B : List (List D)) {E : D} (hE : E.some? = true) (k : ByteArray → Int → D → Option R) :
    F11 fu most at_ E B k = k (ByteArray.mk #[]) at_ E := by
  rw [F11_eq]
  unfold Fb11
  rw [number_stays fu hfu _ _ B hE, hE]
  rfl

theorem nums_stays (fu : Nat) (hfu : 1 ≤ fu) (most at_ : Int) (B : List (List D)) {E : D} (hE : E.some? = true) (k : Int → D → List (List D) → Option R) :
    F12 fu most at_ E B k = k at_ E [] := by
  rw [F12_eq]
  unfold Fb12
  rw [number_stays fu hfu _ _ B hE]
  obtain ⟨n, rfl⟩ : ∃ n, fu = n + 1 := ⟨fu - 1, by omega⟩
  simp only [hE, Bool.not_true, cond_false]
  unfold F12_506
  rw [lt_false (show ¬ (0 : Int) < 0 by omega), cond_false]
  simp only [hE, Bool.not_true, Bool.not_false, cond_true]

theorem num_any (fu : Nat) (hfu : 10 ≤ fu) (p : Nat) (B : List (List D)) (hB : Torn B) (k : Int → Int → D → Option R) :
    (∃ E, IsFault E ∧ F7 fu p D.nil B k = k 0 p E) ∨ (∃ a q : Nat, p < q ∧ q < B.length ∧ F7 fu p D.nil B k = k (a : Int) (q : Int) D.nil) := by
  rw [F7_eq]
  unfold Fb7
  rw [F23_eq]
  unfold Fb23
  rcases read_any fu p B hB (fun o_0 o_1 o_2 => k o_0 o_1 o_2) (fun o_3 => k 0 o_3 D.nil) fu 0 0 p (by omega) (by omega) (by simp) with ⟨c, hc, h⟩ | ⟨a, q, h1, h2, h⟩
  · exact .inl ⟨_, ⟨_, _, rfl, hc⟩, h⟩
  · exact .inr ⟨a, q, h1, h2, h⟩

/-- So many numbers are read as there are bytes: the reader is spoiled. -/
theorem readsAll (fu : Nat) (hfu : 10 ≤ fu) (B : List (List D)) (hB : Torn B) (k0 k1 : Int → D → Option R) (Y : Option R) (hk : ∀ (q : Nat) E, IsFault E → q ≤ B.length → k1 q E = Y) :
    ∀ (n i p : Nat) (E : D), B.length + 1 ≤ i + n → i ≤ B.length → p ≤ B.length → (E = D.nil ∧ i ≤ p ∧ p < B.length ∨ IsFault E) →
      F3_250 fu (B.length : Int) B n (i : Int) (p : Int) E k0 k1 = Y := by
  have hl := hB.len
  intro n
  induction n with
  | zero => intro i p E h1 h2; omega
  | succ n ih =>
    intro i p E h1 h2 h3 hE
    unfold F3_250
    by_cases hi : i < B.length
    · rw [lt_true (show (i : Int) < (B.length : Int) by omega), cond_true]
      rcases hE with ⟨rfl, hip, hpB⟩ | hE
      · rcases num_any fu hfu p B hB (fun o_0 o_1 o_2 => bif decide (o_0 < 0) then k0 o_1 o_2 else F3_250 fu (B.length : Int) B n (IntKind.i64.wrap ((i : Int) + 1)) o_1 o_2 k0 k1) with ⟨E, hE, h⟩ | ⟨a, q, hq, hq2, h⟩
        · rw [h, lt_false (show ¬ (0 : Int) < 0 by omega), cond_false, wrap_succ (by omega)]
          exact ih (i + 1) p E (by omega) (by omega) h3 (.inr hE)
        · rw [h, lt_false (show ¬ (a : Int) < 0 by omega), cond_false, wrap_succ (by omega)]
          exact ih (i + 1) q D.nil (by omega) (by omega) (by omega) (.inl ⟨rfl, by omega, hq2⟩)
      · rw [num_stays fu (by omega) p B hE.some, lt_false (show ¬ (0 : Int) < 0 by omega), cond_false, wrap_succ (by omega)]
        exact ih (i + 1) p E (by omega) (by omega) h3 (.inr hE)
    · rw [lt_false (show ¬ (i : Int) < (B.length : Int) by omega), cond_false]
      rcases hE with ⟨rfl, hip, hpB⟩ | hE
      · omega
      · exact hk p E hE h3

theorem calls (fu : Nat) (hfu : 1 ≤ fu) (B l : List (List D)) (at_ left : Int) (hleft : left = IntKind.i64.wrap (ofN B.length - at_)) {E : D} (hE : E.some? = true) (hl : l.length ≤ 1000) (k0 k1 : Int → D → Option R) :
    ∀ (n i : Nat), l.length + 1 ≤ i + n → i ≤ l.length →
      F3_2042 fu at_ left l (ofN l.length) B n (i : Int) at_ E k0 k1 = k1 at_ E := by
  intro n
  induction n with
  | zero => intro i h1 h2; omega
  | succ n ih =>
    intro i h1 h2
    unfold F3_2042
    by_cases hi : i < l.length
    · rw [lt_true (show (i : Int) < ofN l.length by unfold ofN; omega), cond_true, within_of hi, cond_true, Int.toNat_natCast]
      have hn := ih (i + 1) (by omega) (by omega)
      have hleft' : decide (IntKind.i64.wrap (ofN B.length - at_) = left) = true := decide_eq_true hleft.symm
      have go10 : ∀ k : Int → Option R, F10 fu at_ E B k = k (IntKind.i64.wrap (ofN B.length - at_)) := fun k => by rw [F10_eq]; rfl
      have go9 : ∀ k : Option R, F9 fu at_ E B k = k := fun k => by rw [F9_eq]; rfl
      rw [wrap_succ (by omega)]
      by_cases h0 : (cell 0 (elem i l)).toInt = 0
      · rw [eq_true h0, cond_true, num_stays fu hfu at_ B hE]
        rw [eq_true (show (0 : Int) = 0 from rfl), go9, eq_true (show at_ = at_ from rfl), go10, hleft']
        exact hn
      · rw [eq_false h0, cond_false]
        by_cases h1' : (cell 0 (elem i l)).toInt = 1
        · rw [eq_true h1', cond_true, text_stays fu hfu _ at_ B hE, strEq_refl, go9, eq_true (show at_ = at_ from rfl), go10, hleft']
          exact hn
        · rw [eq_false h1', cond_false, nums_stays fu hfu _ at_ B hE, go9, eq_true (show at_ = at_ from rfl), go10, hleft', lt_false (show ¬ (0 : Int) < ofN ([] : List (List D)).length by unfold ofN; simp)]
          exact hn
    · rw [lt_false (show ¬ (i : Int) < ofN l.length by unfold ofN; omega), cond_false]

theorem byte_wf {d : D} (h : WFD (FT.int IntKind.u8) d) : ∃ n : Int, d = D.int n ∧ 0 ≤ n ∧ n < 256 := by
  cases h with
  | int _ n h =>
    refine ⟨n, rfl, ?_⟩
    simp [Lit.wf, IntKind.min, IntKind.max, IntKind.signed, IntKind.bits] at h
    omega

theorem torn_of {b : List (List D)} (hb : b.length ≤ 400) (h : ∀ r ∈ b, WFDs [FT.int IntKind.u8] r) : Torn (b ++ [[D.int 128]]) := by
  have hlen : (b ++ [[D.int 128]]).length = b.length + 1 := by simp
  refine ⟨by omega, fun i hi => ?_, fun i hi => ?_⟩
  · by_cases h1 : i < b.length
    · have e : elem i (b ++ [[D.int 128]]) = elem i b := by
        unfold elem
        rw [List.getD_eq_getElem?_getD, List.getD_eq_getElem?_getD, List.getElem?_append_left h1]
      rw [e]
      have hw := (h _ (elem_mem h1)).cell (j := 0) (ft := FT.int IntKind.u8) rfl
      obtain ⟨n, hn, h0, h1⟩ := byte_wf hw
      exact ⟨n.toNat, by omega, by rw [hn]; show n = _; omega⟩
    · have e : elem i (b ++ [[D.int 128]]) = [D.int 128] := by
        unfold elem
        rw [List.getD_eq_getElem?_getD, List.getElem?_append_right (by omega), show i - b.length = 0 by omega]
        rfl
      rw [e]
      exact ⟨128, by omega, rfl⟩
  · have e : elem i (b ++ [[D.int 128]]) = [D.int 128] := by
      unfold elem
      rw [List.getD_eq_getElem?_getD, List.getElem?_append_right (by omega), show i - b.length = 0 by omega]
      rfl
    rw [e]
    exact Int.le_refl 128

theorem stops3 (fu : Nat) (hfu : 500 ≤ fu) (b l : List (List D)) (h : ∀ r ∈ b, WFDs [FT.int IntKind.u8] r) : F3 fu b l (fun o => some o) = some true := by
  have f5 : ∀ k : Option Bool, F5 fu k = k := fun k => by rw [F5_eq]; rfl
  rw [F3_eq]
  unfold Fb3
  rw [f5]
  by_cases hb : b.length ≤ 400
  · rw [lt_false (show ¬ (400 : Int) < ofN b.length by unfold ofN; omega), cond_false]
    by_cases hl : l.length ≤ 400
    · rw [lt_false (show ¬ (400 : Int) < ofN l.length by unfold ofN; omega), cond_false, fits_of (by omega) (by omega), cond_true, fits_of (by omega) (by omega), cond_true]
      have hT := torn_of hb h
      have hlen : (b ++ [[D.int 128]]).length = b.length + 1 := by simp
      have e6 : ∀ k : D → Option Bool, F6 fu (b ++ [[D.int 128]]) k = k D.nil := fun k => by
        rw [F6_eq]; unfold Fb6; rw [fits_of (by omega) (by omega), cond_true]
      rw [e6]
      have ew : IntKind.i64.wrap (ofN b.length + 1) = ((b ++ [[D.int 128]]).length : Int) := by rw [wrap_of (by unfold ofN; omega) (by unfold ofN; omega), hlen]; unfold ofN; omega
      rw [ew]
      refine readsAll fu (by omega) _ hT _ _ (some true) (fun q E hE hq => ?_) fu 0 0 D.nil (by omega) (by omega) (by omega) (.inl ⟨rfl, by omega, by omega⟩)
      have go8 : ∀ k : Option Bool, F8 fu q E (b ++ [[D.int 128]]) k = k := fun k => by rw [F8_eq]; rfl
      have go9 : ∀ k : Option Bool, F9 fu q E (b ++ [[D.int 128]]) k = k := fun k => by rw [F9_eq]; rfl
      have go10 : ∀ k : Int → Option Bool, F10 fu q E (b ++ [[D.int 128]]) k = k (IntKind.i64.wrap (ofN (b ++ [[D.int 128]]).length - q)) := fun k => by rw [F10_eq]; rfl
      have go14 : ∀ k : D → Option Bool, F14 fu q E (b ++ [[D.int 128]]) k = k E := fun k => by rw [F14_eq]; unfold Fb14; rw [hE.some]; rfl
      simp only [go8, go9, go10, hE.some, Bool.not_true, cond_false]
      refine (calls fu (by omega) _ l q _ rfl hE.some (by omega) _ _ fu 0 (by omega) (by omega)).trans ?_
      simp only [go8, go14, hE.ok, cond_true]
      rw [eq_false hE.code]
      simp only [decide_true, Bool.not_false, cond_true]
    · rw [lt_true (show (400 : Int) < ofN l.length by unfold ofN; omega), cond_true]
  · rw [lt_true (show (400 : Int) < ofN b.length by unfold ofN; omega), cond_true]
end Go.Proofs.YtbeiflhnogedeaaDoor.V

namespace Go.Proofs.YtbeiflhnogedeaaDoor
open Go

theorem stops_said : Rows.CoilStopsSaid := stops_join (V.law3 1000 (fun ds1 ds2 h1 _ => V.stops3 1000 (by omega) _ _ (V.WFD.rows (V.WFDs.cell h1 (j := 0) rfl))))

theorem stops_holds : Rows.CoilStopsCardSaid :=
  Claim7.holds_tied_plain_at .later [] [.handle] true (true, "76527c56d945c2e7657216ce6c63a106e4444d6f9261d28688f93b8b3768153b") true
    stops_said (fun _ h => by cases h) (by kernel_rfl) (fun _ h => by cases h) coilStops_row_tie rfl ⟨rfl, rfl⟩ (by kernel_rfl) rfl
    (fun f fn hf hfn => by
      obtain rfl : f = 3 := Option.some.inj ((show Tryd.prog.funcNamed "daisychain/daisychainlaw01.CoilStops" = some 3 by kernel_rfl).symm.trans hf) |>.symm
      obtain rfl : fn = Tryd.f3 := (Option.some.inj (Tryd.func3.symm.trans hfn)).symm
      exact ⟨by kernel_rfl, fun j t ht => by
        rw [Tryd.params3] at ht
        match j, ht with
        | 0, ht =>
          obtain rfl : 22 = t := Option.some.inj ht
          exact (show Tryd.prog.wantsStandIn 22 = false by kernel_rfl)
        | 1, ht =>
          obtain rfl : 23 = t := Option.some.inj ht
          exact (show Tryd.prog.wantsStandIn 23 = false by kernel_rfl)
        | j + 2, ht => simp at ht⟩)
    (by kernel_rfl)

end Go.Proofs.YtbeiflhnogedeaaDoor

