import Derived.Test.YthlbahcggmbfaaaCalm1
set_option linter.unusedVariables false
set_option linter.unusedSimpArgs false

noncomputable section
namespace Go.Proofs.Ythlbahcggmbfaaa.V
set_option maxRecDepth 100000
set_option maxHeartbeats 4000000
def He : Code := match Try.f11.body with | some c => c | none => .skip
theorem XW : N0 He 250 = some (.loop (V1 (N0 He 250))) := by kernel_rfl
def Ed {R : Type} (fu : Nat) (many : Int) : Nat -> Int -> (List (List D)) -> (List (List D)) -> ((List (List D)) -> (List (List D)) -> Option R) -> Option R
 | 0, _, _, _, _ => none
 | n + 1, x, l, y, k0 => bif decide (x < 5) then bif decide (x < many) then bif fits (l.length + 1) 8 then F29 fu x [D.int 0, D.row [], D.bool false, D.row []] fun u3 N1 J2 B3 => bif fits (y.length + 1) 8 then (Ed fu many n (IntKind.i64.wrap (x + 1)) (l ++ [[D.int x]]) (y ++ [[D.int x, D.int u3, D.row N1, D.bool J2, D.row B3, D.bool false, D.int 0, D.int 0, D.int 0, D.int 0, D.bool false, D.int 0]]) k0) else none else none else F29 fu x [D.int 0, D.row [], D.bool false, D.row []] fun A4 G5 Y5 B9 => bif fits (y.length + 1) 8 then (Ed fu many n (IntKind.i64.wrap (x + 1)) l (y ++ [[D.int x, D.int A4, D.row G5, D.bool Y5, D.row B9, D.bool false, D.int 0, D.int 0, D.int 0, D.int 0, D.bool false, D.int 0]]) k0) else none else (k0 l y)
def ID (fu n : Nat) : M1 := fun _ e s K => match e, s with
 | [.int .i64 many, .ptr 0 0, .own 1, .int .i64 x], [.obj [.X0 2, .ptr 3 0, .nilslice, .nilslice, .nilslice, .int .i64 w, .bool w1], .row U4 l, .p0 C6 y none, .obj [.map 4], .map (.int .i64) true Ag y1] => (match FT.F0 U4 X1 with | true => (match FT.F0 C6 G4 with | true => (match FT.F0 Ag P1 with | true => Ed fu many n x l y (fun o_ N1 => K (.exit 0) (I0 (D0 5 0x18) [.ptr 0 0, .own 1]) [.obj [.X0 2, .ptr 3 0, .nilslice, .nilslice, .nilslice, .int .i64 (w), .bool (w1)], .row X1 o_, .p0 G4 N1 none, .obj [.map 4], .map (.int .i64) true P1 (y1)]) | false => none) | false => none) | false => none)
 | _, _ => none
def SY (fu : Nat) : Nat -> Option M1 := fun _ => none
theorem jH (fu n : Nat) (R : Type) (K : Y2 -> R1 -> O0 -> Option R) (many x w : Int) (w1 : Bool) (l y : List (List D)) (y1 : List (D × List D)) :
  Ed fu many (n + 1) x l y (fun o_ N1 => K (.exit 0) (I0 (D0 5 0x18) [.ptr 0 0, .own 1]) [.obj [.X0 2, .ptr 3 0, .nilslice, .nilslice, .nilslice, .int .i64 (w), .bool (w1)], .row X1 o_, .p0 G4 N1 none, .obj [.map 4], .map (.int .i64) true P1 (y1)]) = n4 Try.prog (Xx fu) 300 (SY fu) 500 (V1 (N0 He 250)) (I0 (D0 16 0x8019) [.int .i64 many, .ptr 0 0, .own 1, .int .i64 x]) [.obj [.X0 2, .ptr 3 0, .nilslice, .nilslice, .nilslice, .int .i64 w, .bool w1], .row X1 l, .p0 G4 y none, .obj [.map 4], .map (.int .i64) true P1 y1] (BU 0 [.live (D0 16 0x8019), .j9 4 [] X1, .gc, .FN 0 0 G4, .gc] [.live (D0 5 0x1c), .gc] (E8 (D0 16 0x8019) (ID fu n)) K) := by kernel_rfl
theorem gz (fu : Nat) : R0 Try.prog 0 He (SY fu) := R0.none _ _ _
theorem gP (fu : Nat) : ∀ n, l4 Try.prog 0 (.loop (V1 (N0 He 250))) (E8 (D0 16 0x8019) (ID fu n)) := by
 refine H4 (gin := [.live (D0 16 0x8019), .j9 4 [] X1, .gc, .FN 0 0 G4, .gc]) (gout := [.live (D0 5 0x1c), .gc]) (k := 300) (HL fu) (gz fu) (by decide) XW (fun R e s K => ?_) (fun n R e s K r h => ?_)
 ·unfold ID; repeat' split
  all_goals rfl
 ·unfold ID at h; split at h
  case h_2 => cases h
  iterate 3 (split at h; (case h_2 => cases h); rename_i hq; have hq := FT.J0 _ _ hq; subst hq)
  exact (jH fu n R K _ _ _ _ _ _ _).symm.trans h
def oI {R : Type} (fu : Nat) (many : Int) (k0 : Option R) (k1 : (List (List D)) -> (List (List D)) -> (List (D × List D)) -> Option R) : Option R :=
 F34 fu (Ed fu many fu 0 [] [] fun u3 N1 => Ra fu [D.int 0, D.int 0, D.int 0, D.int 0, D.row u3] [] fun J2 B3 => bif !decide (J2 = 0) then (k0) else F36 fu N1 [] [] [] 0 false B3 fun A4 => (k1 N1 A4 B3))
def F11 {R : Type} := shut (@oI R)
theorem fZ {R : Type} (fu : Nat) (many : Int) (k0 : Option R) (k1 : (List (List D)) -> (List (List D)) -> (List (D × List D)) -> Option R) : F11 fu many k0 k1 = oI fu many k0 k1 := by unfold F11; rw [O2]
def gl (fu : Nat) : Nat -> Option M1 := fun p => match Nat.beq p 250 with | true => some (Ie 0 [.live (D0 16 0x8019), .j9 4 [] X1, .gc, .FN 0 0 G4, .gc] (E8 (D0 16 0x8019) (ID fu fu))) | false => none
def t11 (fu : Nat) : J1 := fun _ args s K => match args, s with
 | [.int .i64 many], [] => F11 fu many (K (.I2) []) (fun o_ N1 J2 => K (.ptr 0 0) [.obj [.X0 1, .ptr 2 0, .own 3, .own 4, .fz D1 ([]) false, .int .i64 (0), .bool (false)], .p0 G4 o_ none, .obj [.map 5], .row P1 N1, .row L2 ([]), .map (.int .i64) true P1 J2])
 | _, _ => none
theorem e11 (R : Type) (K : UV -> O0 -> Option R) (fu : Nat) (many : Int) :
  F11 fu many (K (.I2) []) (fun o_ N1 J2 => K (.ptr 0 0) [.obj [.X0 1, .ptr 2 0, .own 3, .own 4, .fz D1 ([]) false, .int .i64 (0), .bool (false)], .p0 G4 o_ none, .obj [.map 5], .row P1 N1, .row L2 ([]), .map (.int .i64) true P1 J2]) = I6 Try.prog ⟨(Xx fu), gl fu⟩ 300 11 [.int .i64 many] [] (W6 0 [.gc, .X3 0 2 P1, .X3 0 3 L2, .S3 0 4 D1, .gc] K) := (fZ fu _ _ _).trans (by kernel_rfl)
theorem s11 (fu : Nat) : N3 Try.prog 11 (t11 fu) := by
 refine y0 (T := ⟨(Xx fu), gl fu⟩) (m := 0) (gout := [.gc, .X3 0 2 P1, .X3 0 3 L2, .S3 0 4 D1, .gc]) (k := 300) (HL fu) (fun fn body hf hb => ?_) (fun R args s K r h => ?_) (fun R args s K r h => ?_)
 ·have hc : body = He := by
   have h1 : Try.prog.funcs[11]? = some Try.f11 := rfl
   rw [h1] at hf; cases hf
   have h2 : Try.f11.body = some He := rfl
   rw [h2] at hb; cases hb; rfl
  subst hc
  exact fun p told h b hb => by
   replace h : gl fu p = some told := h
   unfold gl at h
   split at h
   ·rename_i hp
    cases h
    have := B6 hp
    subst this
    rw [XW] at hb
    cases hb
    exact C3 (gP fu _)
   ·
    cases h

 ·unfold t11 at h; split at h
  ·rfl
  ·cases h
 ·unfold t11 at h; split at h
  case h_2 => cases h
  exact (e11 R K fu _).symm.trans h
def Um (fu : Nat) : FuncId -> Option (Bool × J1) := fun f => match Nat.beq f 11 with
 | true => some (false, CA [] (t11 fu))
 | false => (Xx fu) f
theorem Dy (fu : Nat) : C2 Try.prog (Um fu) := by
 intro f own told h
 unfold Um at h
 split at h
 ·rename_i hb
  cases h
  have := B6 hb
  subst this
  exact O1 (s11 fu)
 ·exact (HL fu) f own told h
end Go.Proofs.Ythlbahcggmbfaaa.V
end
noncomputable section
namespace Go.Proofs.Ythlbahcggmbfaaa.V
set_option maxRecDepth 100000
set_option maxHeartbeats 4000000
def Bh : Code := match Try.f10.body with | some c => c | none => .skip
theorem XY : N0 Bh 122 = some (.loop (V1 (N0 Bh 122))) := by kernel_rfl
def AU {R : Type} (fu : Nat) (x : Int) (x2 : List (List D)) : Nat -> Int -> (List (List D)) -> Int -> Bool -> (List (List D)) -> (List (List D)) -> (List (List D)) -> (List (D × List D)) -> ((List (List D)) -> Int -> Bool -> (List (List D)) -> (List (List D)) -> (List (List D)) -> (List (D × List D)) -> Option R) -> Option R
 | 0, _, _, _, _, _, _, _, _, _ => none
 | n + 1, x1, w, w1, w2, y, y1, y2, y3, k0 => bif decide (x1 < x) then bif within x1 x2.length then F13 fu [D.int (cell 0 (elem x1.toNat x2)).toInt, D.int (cell 1 (elem x1.toNat x2)).toInt, D.int (cell 2 (elem x1.toNat x2)).toInt] y y1 y2 w w1 w2 y3 (fun u3 N1 J2 B3 A4 => (AU fu x x2 n (IntKind.i64.wrap (x1 + 1)) u3 N1 J2 B3 y1 A4 y3 k0)) (fun G5 Y5 B9 W8 => (AU fu x x2 n (IntKind.i64.wrap (x1 + 1)) G5 w1 Y5 B9 y1 W8 y3 k0)) (fun R9 Q5 H5 I7 => (AU fu x x2 n (IntKind.i64.wrap (x1 + 1)) R9 w1 Q5 H5 y1 y2 I7 k0)) (fun M6 q8 H7 => (AU fu x x2 n (IntKind.i64.wrap (x1 + 1)) M6 w1 q8 H7 y1 y2 y3 k0)) fun o9 o4 M9 BS Bm => (AU fu x x2 n (IntKind.i64.wrap (x1 + 1)) o9 w1 o4 M9 Bm y2 BS k0) else none else (k0 w w1 w2 y y1 y2 y3)
def IF (fu n : Nat) : M1 := fun _ e s K => match e, s with
 | [.ptr 0 0, .own 1, .int .i64 x, .int .i64 x1], [.obj [.X0 2, .ptr 3 0, .own 4, .own 5, .fz U4 w false, .int .i64 w1, .bool w2], .row C6 x2, .p0 Ag y none, .obj [.map 6], .row Cj y1, .row Ci y2, .map (.int .i64) true OP y3] => (match FT.F0 U4 D1 with | true => (match FT.F0 C6 Zg with | true => (match FT.F0 Ag G4 with | true => (match FT.F0 Cj P1 with | true => (match FT.F0 Ci L2 with | true => (match FT.F0 OP P1 with | true => AU fu x x2 n x1 w w1 w2 y y1 y2 y3 (fun o_ N1 J2 B3 A4 G5 Y5 => K (.exit 0) (I0 (D0 2 0x2) [.ptr 0 0]) [.obj [.X0 1, .ptr 2 0, .own 3, .own 4, .fz D1 o_ false, .int .i64 N1, .bool J2], .p0 G4 B3 none, .obj [.map 5], .row P1 A4, .row L2 G5, .map (.int .i64) true P1 Y5]) | false => none) | false => none) | false => none) | false => none) | false => none) | false => none)
 | _, _ => none
def Sa (fu : Nat) : Nat -> Option M1 := fun _ => none
theorem jJ (fu n : Nat) (R : Type) (K : Y2 -> R1 -> O0 -> Option R) (x x1 : Int) (w : List (List D)) (w1 : Int) (w2 : Bool) (x2 y y1 y2 : List (List D)) (y3 : List (D × List D)) :
  AU fu x x2 (n + 1) x1 w w1 w2 y y1 y2 y3 (fun o_ N1 J2 B3 A4 G5 Y5 => K (.exit 0) (I0 (D0 2 0x2) [.ptr 0 0]) [.obj [.X0 1, .ptr 2 0, .own 3, .own 4, .fz D1 o_ false, .int .i64 N1, .bool J2], .p0 G4 B3 none, .obj [.map 5], .row P1 A4, .row L2 G5, .map (.int .i64) true P1 Y5]) = n4 Try.prog (Um fu) 300 (Sa fu) 244 (V1 (N0 Bh 122)) (I0 (D0 13 0x1c02) [.ptr 0 0, .own 1, .int .i64 x, .int .i64 x1]) [.obj [.X0 2, .ptr 3 0, .own 4, .own 5, .fz D1 w false, .int .i64 w1, .bool w2], .row Zg x2, .p0 G4 y none, .obj [.map 6], .row P1 y1, .row L2 y2, .map (.int .i64) true P1 y3] (BU 0 [.live (D0 13 0x1c02), .j9 10 [] Zg, .gc, .X3 0 2 P1, .X3 0 3 L2, .S3 0 4 D1, .gc] [.live (D0 2 0x3), .gc] (E8 (D0 13 0x1c02) (IF fu n)) K) := by kernel_rfl
theorem hU (fu : Nat) : R0 Try.prog 0 Bh (Sa fu) := R0.none _ _ _
theorem gR (fu : Nat) : ∀ n, l4 Try.prog 0 (.loop (V1 (N0 Bh 122))) (E8 (D0 13 0x1c02) (IF fu n)) := by
 refine H4 (gin := [.live (D0 13 0x1c02), .j9 10 [] Zg, .gc, .X3 0 2 P1, .X3 0 3 L2, .S3 0 4 D1, .gc]) (gout := [.live (D0 2 0x3), .gc]) (k := 300) (Dy fu) (hU fu) (by decide) XY (fun R e s K => ?_) (fun n R e s K r h => ?_)
 ·unfold IF; repeat' split
  all_goals rfl
 ·unfold IF at h; split at h
  case h_2 => cases h
  iterate 6 (split at h; (case h_2 => cases h); rename_i hq; have hq := FT.J0 _ _ hq; subst hq)
  exact (jJ fu n R K _ _ _ _ _ _ _ _ _ _).symm.trans h
theorem XX : N0 Bh 250 = some (.loop (V1 (N0 Bh 250))) := by kernel_rfl
def AT {R : Type} (fu : Nat) : Nat -> Int -> (List (List D)) -> Int -> Bool -> (List (List D)) -> (List (List D)) -> (List (List D)) -> (List (D × List D)) -> ((List (List D)) -> Int -> Bool -> (List (List D)) -> (List (List D)) -> (List (List D)) -> (List (D × List D)) -> Option R) -> Option R
 | 0, _, _, _, _, _, _, _, _, _ => none
 | n + 1, x, w, w1, w2, y, y1, y2, y3, k0 => bif decide (x < 9) then F13 fu [D.int 2, D.int 0, D.int 0] y y1 y2 w w1 w2 y3 (fun u3 N1 J2 B3 A4 => (AT fu n (IntKind.i64.wrap (x + 1)) u3 N1 J2 B3 y1 A4 y3 k0)) (fun G5 Y5 B9 W8 => (AT fu n (IntKind.i64.wrap (x + 1)) G5 w1 Y5 B9 y1 W8 y3 k0)) (fun R9 Q5 H5 I7 => (AT fu n (IntKind.i64.wrap (x + 1)) R9 w1 Q5 H5 y1 y2 I7 k0)) (fun M6 q8 H7 => (AT fu n (IntKind.i64.wrap (x + 1)) M6 w1 q8 H7 y1 y2 y3 k0)) fun o9 o4 M9 BS Bm => (AT fu n (IntKind.i64.wrap (x + 1)) o9 w1 o4 M9 Bm y2 BS k0) else (k0 w w1 w2 y y1 y2 y3)
def IE (fu n : Nat) : M1 := fun _ e s K => match e, s with
 | [.ptr 0 0, .int .i64 x], [.obj [.X0 1, .ptr 2 0, .own 3, .own 4, .fz U4 w false, .int .i64 w1, .bool w2], .p0 C6 y none, .obj [.map 5], .row Ag y1, .row Cj y2, .map (.int .i64) true Ci y3] => (match FT.F0 U4 D1 with | true => (match FT.F0 C6 G4 with | true => (match FT.F0 Ag P1 with | true => (match FT.F0 Cj L2 with | true => (match FT.F0 Ci P1 with | true => AT fu n x w w1 w2 y y1 y2 y3 (fun o_ N1 J2 B3 A4 G5 Y5 => K (.exit 2) (I0 (D0 2 0x2) [.ptr 0 0]) [.obj [.X0 1, .ptr 2 0, .own 3, .own 4, .fz D1 o_ false, .int .i64 N1, .bool J2], .p0 G4 B3 none, .obj [.map 5], .row P1 A4, .row L2 G5, .map (.int .i64) true P1 Y5]) | false => none) | false => none) | false => none) | false => none) | false => none)
 | _, _ => none
def SZ (fu : Nat) : Nat -> Option M1 := fun _ => none
theorem jI (fu n : Nat) (R : Type) (K : Y2 -> R1 -> O0 -> Option R) (x : Int) (w : List (List D)) (w1 : Int) (w2 : Bool) (y y1 y2 : List (List D)) (y3 : List (D × List D)) :
  AT fu (n + 1) x w w1 w2 y y1 y2 y3 (fun o_ N1 J2 B3 A4 G5 Y5 => K (.exit 2) (I0 (D0 2 0x2) [.ptr 0 0]) [.obj [.X0 1, .ptr 2 0, .own 3, .own 4, .fz D1 o_ false, .int .i64 N1, .bool J2], .p0 G4 B3 none, .obj [.map 5], .row P1 A4, .row L2 G5, .map (.int .i64) true P1 Y5]) = n4 Try.prog (Um fu) 300 (SZ fu) 500 (V1 (N0 Bh 250)) (I0 (D0 21 0x100002) [.ptr 0 0, .int .i64 x]) [.obj [.X0 1, .ptr 2 0, .own 3, .own 4, .fz D1 w false, .int .i64 w1, .bool w2], .p0 G4 y none, .obj [.map 5], .row P1 y1, .row L2 y2, .map (.int .i64) true P1 y3] (BU 0 [.live (D0 21 0x100002), .gc, .X3 0 2 P1, .X3 0 3 L2, .S3 0 4 D1, .gc] [.live (D0 2 0x3), .gc] (E8 (D0 21 0x100002) (IE fu n)) K) := by kernel_rfl
theorem hO (fu : Nat) : R0 Try.prog 0 Bh (SZ fu) := R0.none _ _ _
theorem gQ (fu : Nat) : ∀ n, l4 Try.prog 0 (.loop (V1 (N0 Bh 250))) (E8 (D0 21 0x100002) (IE fu n)) := by
 refine H4 (gin := [.live (D0 21 0x100002), .gc, .X3 0 2 P1, .X3 0 3 L2, .S3 0 4 D1, .gc]) (gout := [.live (D0 2 0x3), .gc]) (k := 300) (Dy fu) (hO fu) (by decide) XX (fun R e s K => ?_) (fun n R e s K r h => ?_)
 ·unfold IE; repeat' split
  all_goals rfl
 ·unfold IE at h; split at h
  case h_2 => cases h
  iterate 5 (split at h; (case h_2 => cases h); rename_i hq; have hq := FT.J0 _ _ hq; subst hq)
  exact (jI fu n R K _ _ _ _ _ _ _ _).symm.trans h
def oJ {R : Type} (fu : Nat) (k0 : Bool -> Option R) : Option R :=
 F11 fu 2 ((k0 false)) fun u3 N1 J2 => AU fu 3 [[D.int 5, D.int 0, D.int (-1)], [D.int 5, D.int 1, D.int (-1)], [D.int 0, D.int 0, D.int 0]] fu 0 [] 0 false u3 N1 [] J2 fun B3 A4 G5 Y5 B9 W8 R9 => AT fu fu 0 B3 A4 G5 Y5 B9 W8 R9 fun Q5 H5 I7 M6 q8 H7 o9 => bif !I7 then bif within 0 M6.length then R7 (elem 0 M6) fun Z17 => F17 fu (cell 0 Z17).toInt (cell 1 Z17).toInt (cell 2 Z17).C0 (cell 3 Z17).toBool (cell 4 Z17).C0 (cell 5 Z17).toBool (cell 6 Z17).toInt (cell 7 Z17).toInt (cell 8 Z17).toInt (cell 9 Z17).toInt (cell 10 Z17).toBool (cell 11 Z17).toInt (S7 (setAt M6 0 [D.int (cell 0 Z17).toInt, D.int (cell 1 Z17).toInt, D.row (cell 2 Z17).C0, D.bool (cell 3 Z17).toBool, D.row (cell 4 Z17).C0, D.bool (cell 5 Z17).toBool, D.int (cell 6 Z17).toInt, D.int (cell 7 Z17).toInt, D.int (cell 8 Z17).toInt, D.int (cell 9 Z17).toInt, D.bool (cell 10 Z17).toBool, D.int (cell 11 Z17).toInt]) fun mi => bif decide ((cell 6 Z17).toInt = 1) then bif within 1 mi.length then R7 (elem 1 mi) fun Z19 => F17 fu (cell 0 Z19).toInt (cell 1 Z19).toInt (cell 2 Z19).C0 (cell 3 Z19).toBool (cell 4 Z19).C0 (cell 5 Z19).toBool (cell 6 Z19).toInt (cell 7 Z19).toInt (cell 8 Z19).toInt (cell 9 Z19).toInt (cell 10 Z19).toBool (cell 11 Z19).toInt (S7 (setAt mi 1 [D.int (cell 0 Z19).toInt, D.int (cell 1 Z19).toInt, D.row (cell 2 Z19).C0, D.bool (cell 3 Z19).toBool, D.row (cell 4 Z19).C0, D.bool (cell 5 Z19).toBool, D.int (cell 6 Z19).toInt, D.int (cell 7 Z19).toInt, D.int (cell 8 Z19).toInt, D.int (cell 9 Z19).toInt, D.bool (cell 10 Z19).toBool, D.int (cell 11 Z19).toInt]) fun Vm => bif decide ((cell 6 Z19).toInt = 1) then bif within 0 Vm.length then R7 (elem 0 Vm) fun Z21 => F23 fu (cell 0 Z21).toInt (cell 1 Z21).toInt (cell 2 Z21).C0 (cell 3 Z21).toBool (cell 4 Z21).C0 (cell 5 Z21).toBool (cell 6 Z21).toInt (cell 7 Z21).toInt (cell 8 Z21).toInt (cell 9 Z21).toInt (cell 10 Z21).toBool (cell 11 Z21).toInt fun FV => S7 (setAt Vm 0 [D.int (cell 0 Z21).toInt, D.int (cell 1 Z21).toInt, D.row (cell 2 Z21).C0, D.bool (cell 3 Z21).toBool, D.row (cell 4 Z21).C0, D.bool (cell 5 Z21).toBool, D.int (cell 6 Z21).toInt, D.int (cell 7 Z21).toInt, D.int (cell 8 Z21).toInt, D.int (cell 9 Z21).toInt, D.bool (cell 10 Z21).toBool, D.int (cell 11 Z21).toInt]) fun mh => bif FV then bif within 1 mh.length then R7 (elem 1 mh) fun Z24 => F24 fu (cell 0 Z24).toInt (cell 1 Z24).toInt (cell 2 Z24).C0 (cell 3 Z24).toBool (cell 4 Z24).C0 (cell 5 Z24).toBool (cell 6 Z24).toInt (cell 7 Z24).toInt (cell 8 Z24).toInt (cell 9 Z24).toInt (cell 10 Z24).toBool (cell 11 Z24).toInt fun HP => S7 (setAt mh 1 [D.int (cell 0 Z24).toInt, D.int (cell 1 Z24).toInt, D.row (cell 2 Z24).C0, D.bool (cell 3 Z24).toBool, D.row (cell 4 Z24).C0, D.bool (cell 5 Z24).toBool, D.int (cell 6 Z24).toInt, D.int (cell 7 Z24).toInt, D.int (cell 8 Z24).toInt, D.int (cell 9 Z24).toInt, D.bool (cell 10 Z24).toBool, D.int (cell 11 Z24).toInt]) fun mg => bif HP then bif within 2 mg.length then R7 (elem 2 mg) fun Z27 => F21 fu (cell 0 Z27).toInt (cell 1 Z27).toInt (cell 2 Z27).C0 (cell 3 Z27).toBool (cell 4 Z27).C0 (cell 5 Z27).toBool (cell 6 Z27).toInt (cell 7 Z27).toInt (cell 8 Z27).toInt (cell 9 Z27).toInt (cell 10 Z27).toBool (cell 11 Z27).toInt (S7 (setAt mg 2 [D.int (cell 0 Z27).toInt, D.int (cell 1 Z27).toInt, D.row (cell 2 Z27).C0, D.bool (cell 3 Z27).toBool, D.row (cell 4 Z27).C0, D.bool (cell 5 Z27).toBool, D.int (cell 6 Z27).toInt, D.int (cell 7 Z27).toInt, D.int (cell 8 Z27).toInt, D.int (cell 9 Z27).toInt, D.bool (cell 10 Z27).toBool, D.int (cell 11 Z27).toInt]) fun es28 => (k0 (!(cell 5 Z27).toBool))) else none else (k0 false) else none else (k0 false) else none else (k0 false)) else none else (k0 false)) else none else (k0 false)
def F10 {R : Type} := shut (@oJ R)
theorem fa {R : Type} (fu : Nat) (k0 : Bool -> Option R) : F10 fu k0 = oJ fu k0 := by unfold F10; rw [O2]
def gn (fu : Nat) : Nat -> Option M1 := fun p => match Nat.beq p 122 with | true => some (Ie 0 [.live (D0 13 0x1c02), .j9 10 [] Zg, .gc, .X3 0 2 P1, .X3 0 3 L2, .S3 0 4 D1, .gc] (E8 (D0 13 0x1c02) (IF fu fu))) | false => match Nat.beq p 250 with | true => some (Ie 0 [.live (D0 21 0x100002), .gc, .X3 0 2 P1, .X3 0 3 L2, .S3 0 4 D1, .gc] (E8 (D0 21 0x100002) (IE fu fu))) | false => none
def t10 (fu : Nat) : J1 := fun _ args s K => match args, s with
 | [], [] => F10 fu  (fun o_ => K (.bool o_) [])
 | _, _ => none
theorem e10 (R : Type) (K : UV -> O0 -> Option R) (fu : Nat) :
  F10 fu  (fun o_ => K (.bool o_) []) = I6 Try.prog ⟨(Um fu), gn fu⟩ 300 10 [] [] (W6 0 [.gc] K) := (fa fu _).trans (by kernel_rfl)
theorem s10 (fu : Nat) : N3 Try.prog 10 (t10 fu) := by
 refine y0 (T := ⟨(Um fu), gn fu⟩) (m := 0) (gout := [.gc]) (k := 300) (Dy fu) (fun fn body hf hb => ?_) (fun R args s K r h => ?_) (fun R args s K r h => ?_)
 ·have hc : body = Bh := by
   have h1 : Try.prog.funcs[10]? = some Try.f10 := rfl
   rw [h1] at hf; cases hf
   have h2 : Try.f10.body = some Bh := rfl
   rw [h2] at hb; cases hb; rfl
  subst hc
  exact fun p told h b hb => by
   replace h : gn fu p = some told := h
   unfold gn at h
   split at h
   ·rename_i hp
    cases h
    have := B6 hp
    subst this
    rw [XY] at hb
    cases hb
    exact C3 (gR fu _)
   ·
    split at h
    ·rename_i hp
     cases h
     have := B6 hp
     subst this
     rw [XX] at hb
     cases hb
     exact C3 (gQ fu _)
    ·
     cases h

 ·unfold t10 at h; split at h
  ·rfl
  ·cases h
 ·unfold t10 at h; split at h
  case h_2 => cases h
  exact (e10 R K fu).symm.trans h
def QF (fu : Nat) : FuncId -> Option (Bool × J1) := fun f => match Nat.beq f 10 with
 | true => some (false, CA [] (t10 fu))
 | false => (Um fu) f
theorem Am (fu : Nat) : C2 Try.prog (QF fu) := by
 intro f own told h
 unfold QF at h
 split at h
 ·rename_i hb
  cases h
  have := B6 hb
  subst this
  exact O1 (s10 fu)
 ·exact (Dy fu) f own told h
end Go.Proofs.Ythlbahcggmbfaaa.V
end
noncomputable section
namespace Go.Proofs.Ythlbahcggmbfaaa.V
set_option maxRecDepth 100000
set_option maxHeartbeats 4000000
def n6 : Code := match Try.f15.body with | some c => c | none => .skip
theorem eQ : N0 n6 10 = some (.loop (V1 (N0 n6 10))) := by kernel_rfl
theorem Ty : N0 n6 5322 = some (.loop (V1 (N0 n6 5322))) := by kernel_rfl
def S8 {R : Type} (fu : Nat) (x1 : List (List D)) (x2 : Int) : Nat -> Int -> (List (List D)) -> Int -> Bool -> (List (D × List D)) -> (List (List D)) -> (List (List D)) -> (List (List D)) -> ((List (List D)) -> Int -> Bool -> (List (D × List D)) -> (List (List D)) -> (List (List D)) -> (List (List D)) -> Option R) -> Option R
 | 0, _, _, _, _, _, _, _, _, _ => none
 | n + 1, x3, w, w1, w2, y, y1, y2, y3, k0 => bif decide (x3 < x2) then bif within x3 x1.length then F13 fu [D.int 5, D.int (cell 0 (elem x3.toNat x1)).toInt, D.int (-1)] y1 y2 y3 w w1 w2 y (fun u3 N1 J2 B3 A4 => (S8 fu x1 x2 n (IntKind.i64.wrap (x3 + 1)) u3 N1 J2 y B3 y2 A4 k0)) (fun G5 Y5 B9 W8 => (S8 fu x1 x2 n (IntKind.i64.wrap (x3 + 1)) G5 w1 Y5 y B9 y2 W8 k0)) (fun R9 Q5 H5 I7 => (S8 fu x1 x2 n (IntKind.i64.wrap (x3 + 1)) R9 w1 Q5 I7 H5 y2 y3 k0)) (fun M6 q8 H7 => (S8 fu x1 x2 n (IntKind.i64.wrap (x3 + 1)) M6 w1 q8 y H7 y2 y3 k0)) fun o9 o4 M9 BS Bm => (S8 fu x1 x2 n (IntKind.i64.wrap (x3 + 1)) o9 w1 o4 BS M9 Bm y3 k0) else none else (k0 w w1 w2 y y1 y2 y3)
def FH (fu n : Nat) : M1 := fun _ e s K => match e, s with
 | [.ptr 0 0, .ptr 9 0, .int .i64 x, .fz U4 x1 false, .int .i64 x2, .int .i64 x3], [.obj [.X0 6, .ptr 2 0, .own 7, .own 8, .fz C6 w false, .int .i64 w1, .bool w2], .gone, .obj [.map 5], .gone, .gone, .map (.int .i64) true Ag y, .p0 Cj y1 none, .row Ci y2, .row OP y3, .obj [.int .i64 c, .fz pG c1 false, .bool c2]] => (match FT.F0 U4 X1 with | true => (match FT.F0 C6 D1 with | true => (match FT.F0 Ag P1 with | true => (match FT.F0 Cj G4 with | true => (match FT.F0 Ci P1 with | true => (match FT.F0 OP L2 with | true => (match FT.F0 pG X1 with | true => S8 fu x1 x2 n x3 w w1 w2 y y1 y2 y3 (fun o_ N1 J2 B3 A4 G5 Y5 => K (.exit 2) (I0 (D0 9 0x105) [.ptr 0 0, .ptr 9 0, .int .i64 (x)]) [.obj [.X0 6, .ptr 2 0, .own 7, .own 8, .fz D1 o_ false, .int .i64 N1, .bool J2], .gone, .obj [.map 5], .gone, .gone, .map (.int .i64) true P1 B3, .p0 G4 A4 none, .row P1 G5, .row L2 Y5, .obj [.int .i64 (c), .fz X1 (c1) false, .bool (c2)]]) | false => none) | false => none) | false => none) | false => none) | false => none) | false => none) | false => none)
 | _, _ => none
def PG (fu : Nat) : Nat -> Option M1 := fun _ => none
theorem dC (fu n : Nat) (R : Type) (K : Y2 -> R1 -> O0 -> Option R) (x : Int) (x1 : List (List D)) (x2 x3 : Int) (w : List (List D)) (w1 : Int) (w2 : Bool) (y : List (D × List D)) (y1 y2 y3 : List (List D)) (c : Int) (c1 : List (List D)) (c2 : Bool) :
  S8 fu x1 x2 (n + 1) x3 w w1 w2 y y1 y2 y3 (fun o_ N1 J2 B3 A4 G5 Y5 => K (.exit 2) (I0 (D0 9 0x105) [.ptr 0 0, .ptr 9 0, .int .i64 (x)]) [.obj [.X0 6, .ptr 2 0, .own 7, .own 8, .fz D1 o_ false, .int .i64 N1, .bool J2], .gone, .obj [.map 5], .gone, .gone, .map (.int .i64) true P1 B3, .p0 G4 A4 none, .row P1 G5, .row L2 Y5, .obj [.int .i64 (c), .fz X1 (c1) false, .bool (c2)]]) = n4 Try.prog (QF fu) 300 (PG fu) 10644 (V1 (N0 n6 5322)) (I0 (D0 26 0x3800105) [.ptr 0 0, .ptr 9 0, .int .i64 x, .fz X1 x1 false, .int .i64 x2, .int .i64 x3]) [.obj [.X0 6, .ptr 2 0, .own 7, .own 8, .fz D1 w false, .int .i64 w1, .bool w2], .gone, .obj [.map 5], .gone, .gone, .map (.int .i64) true P1 y, .p0 G4 y1 none, .row P1 y2, .row L2 y3, .obj [.int .i64 c, .fz X1 c1 false, .bool c2]] (BU 6 [.live (D0 26 0x3800105), .V9 23 [] X1, .gc, .S3 9 1 X1, .gc] [.live (D0 9 0x105), .gc] (E8 (D0 26 0x3800105) (FH fu n)) K) := by kernel_rfl
theorem bM (fu : Nat) : R0 Try.prog 6 n6 (PG fu) := R0.none _ _ _
theorem bB (fu : Nat) : ∀ n, l4 Try.prog 6 (.loop (V1 (N0 n6 5322))) (E8 (D0 26 0x3800105) (FH fu n)) := by
 refine H4 (gin := [.live (D0 26 0x3800105), .V9 23 [] X1, .gc, .S3 9 1 X1, .gc]) (gout := [.live (D0 9 0x105), .gc]) (k := 300) (Am fu) (bM fu) (by decide) Ty (fun R e s K => ?_) (fun n R e s K r h => ?_)
 ·unfold FH; repeat' split
  all_goals rfl
 ·unfold FH at h; split at h
  case h_2 => cases h
  iterate 7 (split at h; (case h_2 => cases h); rename_i hq; have hq := FT.J0 _ _ hq; subst hq)
  exact (dC fu n R K _ _ _ _ _ _ _ _ _ _ _ _ _ _).symm.trans h
theorem Pr : N0 n6 10650 = some (.loop (V1 (N0 n6 10650))) := by kernel_rfl
def y7 {R : Type} (fu : Nat) (w : List (List D)) (w1 : Int) (w2 : Bool) (y : List (D × List D)) (y2 : List (List D)) : Nat -> Int -> (List (List D)) -> (List (List D)) -> ((List (List D)) -> (List (List D)) -> Option R) -> Option R
 | 0, _, _, _, _ => none
 | n + 1, n_, y1, y3, k0 => bif decide (0 < S1 y3.length) then bif decide (n_ < 500) then F37 fu 0 false y1 y2 y3 w w1 w2 y (fun u3 N1 => (y7 fu w w1 w2 y y2 n (IntKind.i64.wrap (n_ + 1)) u3 N1 k0)) (fun J2 B3 => (y7 fu w w1 w2 y y2 n (IntKind.i64.wrap (n_ + 1)) J2 B3 k0)) ((y7 fu w w1 w2 y y2 n (IntKind.i64.wrap (n_ + 1)) y1 y3 k0)) else (k0 y1 y3) else (k0 y1 y3)
def DU (fu n : Nat) : M1 := fun _ e s K => match e, s with
 | [.ptr 0 0, .ptr 9 0, .int .i64 n_, .int .i64 x], [.obj [.X0 6, .ptr 2 0, .own 7, .own 8, .fz U4 w false, .int .i64 w1, .bool w2], .gone, .obj [.map 5], .gone, .gone, .map (.int .i64) true C6 y, .p0 Ag y1 none, .row Cj y2, .row Ci y3, .obj [.int .i64 c, .fz OP c1 false, .bool c2]] => (match FT.F0 U4 D1 with | true => (match FT.F0 C6 P1 with | true => (match FT.F0 Ag G4 with | true => (match FT.F0 Cj P1 with | true => (match FT.F0 Ci L2 with | true => (match FT.F0 OP X1 with | true => y7 fu w w1 w2 y y2 n n_ y1 y3 (fun o_ N1 => K (.exit 4) (I0 (D0 9 0x105) [.ptr 0 0, .ptr 9 0, .int .i64 (x)]) [.obj [.X0 6, .ptr 2 0, .own 7, .own 8, .fz D1 (w) false, .int .i64 (w1), .bool (w2)], .gone, .obj [.map 5], .gone, .gone, .map (.int .i64) true P1 (y), .p0 G4 o_ none, .row P1 (y2), .row L2 N1, .obj [.int .i64 (c), .fz X1 (c1) false, .bool (c2)]]) | false => none) | false => none) | false => none) | false => none) | false => none) | false => none)
 | _, _ => none
def NA (fu : Nat) : Nat -> Option M1 := fun _ => none
theorem ZD (fu n : Nat) (R : Type) (K : Y2 -> R1 -> O0 -> Option R) (n_ x : Int) (w : List (List D)) (w1 : Int) (w2 : Bool) (y : List (D × List D)) (y1 y2 y3 : List (List D)) (c : Int) (c1 : List (List D)) (c2 : Bool) :
  y7 fu w w1 w2 y y2 (n + 1) n_ y1 y3 (fun o_ N1 => K (.exit 4) (I0 (D0 9 0x105) [.ptr 0 0, .ptr 9 0, .int .i64 (x)]) [.obj [.X0 6, .ptr 2 0, .own 7, .own 8, .fz D1 (w) false, .int .i64 (w1), .bool (w2)], .gone, .obj [.map 5], .gone, .gone, .map (.int .i64) true P1 (y), .p0 G4 o_ none, .row P1 (y2), .row L2 N1, .obj [.int .i64 (c), .fz X1 (c1) false, .bool (c2)]]) = n4 Try.prog (QF fu) 300 (NA fu) 21300 (V1 (N0 n6 10650)) (I0 (D0 9 0x125) [.ptr 0 0, .ptr 9 0, .int .i64 n_, .int .i64 x]) [.obj [.X0 6, .ptr 2 0, .own 7, .own 8, .fz D1 w false, .int .i64 w1, .bool w2], .gone, .obj [.map 5], .gone, .gone, .map (.int .i64) true P1 y, .p0 G4 y1 none, .row P1 y2, .row L2 y3, .obj [.int .i64 c, .fz X1 c1 false, .bool c2]] (BU 6 [.live (D0 9 0x125), .gc, .S3 9 1 X1, .gc] [.live (D0 9 0x105), .gc] (E8 (D0 9 0x125) (DU fu n)) K) := by kernel_rfl
theorem YT (fu : Nat) : R0 Try.prog 6 n6 (NA fu) := R0.none _ _ _
theorem YC (fu : Nat) : ∀ n, l4 Try.prog 6 (.loop (V1 (N0 n6 10650))) (E8 (D0 9 0x125) (DU fu n)) := by
 refine H4 (gin := [.live (D0 9 0x125), .gc, .S3 9 1 X1, .gc]) (gout := [.live (D0 9 0x105), .gc]) (k := 300) (Am fu) (YT fu) (by decide) Pr (fun R e s K => ?_) (fun n R e s K r h => ?_)
 ·unfold DU; repeat' split
  all_goals rfl
 ·unfold DU at h; split at h
  case h_2 => cases h
  iterate 6 (split at h; (case h_2 => cases h); rename_i hq; have hq := FT.J0 _ _ hq; subst hq)
  exact (ZD fu n R K _ _ _ _ _ _ _ _ _ _ _ _).symm.trans h
theorem Pq : N0 n6 10654 = some (.loop (V1 (N0 n6 10654))) := by kernel_rfl
def N6 {R : Type} (fu : Nat) (x1 : List (List D)) (x2 : Int) : Nat -> Int -> (List (List D)) -> Int -> Bool -> (List (D × List D)) -> (List (List D)) -> (List (List D)) -> (List (List D)) -> ((List (List D)) -> Int -> Bool -> (List (D × List D)) -> (List (List D)) -> (List (List D)) -> (List (List D)) -> Option R) -> Option R
 | 0, _, _, _, _, _, _, _, _, _ => none
 | n + 1, x3, w, w1, w2, y, y1, y2, y3, k0 => bif decide (x3 < x2) then bif within x3 x1.length then F13 fu [D.int 9, D.int (cell 0 (elem x3.toNat x1)).toInt, D.int 0] y1 y2 y3 w w1 w2 y (fun u3 N1 J2 B3 A4 => (N6 fu x1 x2 n (IntKind.i64.wrap (x3 + 1)) u3 N1 J2 y B3 y2 A4 k0)) (fun G5 Y5 B9 W8 => (N6 fu x1 x2 n (IntKind.i64.wrap (x3 + 1)) G5 w1 Y5 y B9 y2 W8 k0)) (fun R9 Q5 H5 I7 => (N6 fu x1 x2 n (IntKind.i64.wrap (x3 + 1)) R9 w1 Q5 I7 H5 y2 y3 k0)) (fun M6 q8 H7 => (N6 fu x1 x2 n (IntKind.i64.wrap (x3 + 1)) M6 w1 q8 y H7 y2 y3 k0)) fun o9 o4 M9 BS Bm => (N6 fu x1 x2 n (IntKind.i64.wrap (x3 + 1)) o9 w1 o4 BS M9 Bm y3 k0) else none else (k0 w w1 w2 y y1 y2 y3)
def DT (fu n : Nat) : M1 := fun _ e s K => match e, s with
 | [.ptr 0 0, .int .i64 x, .fz U4 x1 false, .int .i64 x2, .int .i64 x3], [.obj [.X0 6, .ptr 2 0, .own 7, .own 8, .fz C6 w false, .int .i64 w1, .bool w2], .gone, .obj [.map 5], .gone, .gone, .map (.int .i64) true Ag y, .p0 Cj y1 none, .row Ci y2, .row OP y3] => (match FT.F0 U4 X1 with | true => (match FT.F0 C6 D1 with | true => (match FT.F0 Ag P1 with | true => (match FT.F0 Cj G4 with | true => (match FT.F0 Ci P1 with | true => (match FT.F0 OP L2 with | true => N6 fu x1 x2 n x3 w w1 w2 y y1 y2 y3 (fun o_ N1 J2 B3 A4 G5 Y5 => K (.exit 6) (I0 (D0 9 0x101) [.ptr 0 0, .int .i64 (x)]) [.obj [.X0 6, .ptr 2 0, .own 7, .own 8, .fz D1 o_ false, .int .i64 N1, .bool J2], .gone, .obj [.map 5], .gone, .gone, .map (.int .i64) true P1 B3, .p0 G4 A4 none, .row P1 G5, .row L2 Y5]) | false => none) | false => none) | false => none) | false => none) | false => none) | false => none)
 | _, _ => none
def Mz (fu : Nat) : Nat -> Option M1 := fun _ => none
theorem ZC (fu n : Nat) (R : Type) (K : Y2 -> R1 -> O0 -> Option R) (x : Int) (x1 : List (List D)) (x2 x3 : Int) (w : List (List D)) (w1 : Int) (w2 : Bool) (y : List (D × List D)) (y1 y2 y3 : List (List D)) :
  N6 fu x1 x2 (n + 1) x3 w w1 w2 y y1 y2 y3 (fun o_ N1 J2 B3 A4 G5 Y5 => K (.exit 6) (I0 (D0 9 0x101) [.ptr 0 0, .int .i64 (x)]) [.obj [.X0 6, .ptr 2 0, .own 7, .own 8, .fz D1 o_ false, .int .i64 N1, .bool J2], .gone, .obj [.map 5], .gone, .gone, .map (.int .i64) true P1 B3, .p0 G4 A4 none, .row P1 G5, .row L2 Y5]) = n4 Try.prog (QF fu) 300 (Mz fu) 21308 (V1 (N0 n6 10654)) (I0 (D0 52 0xe000000000101) [.ptr 0 0, .int .i64 x, .fz X1 x1 false, .int .i64 x2, .int .i64 x3]) [.obj [.X0 6, .ptr 2 0, .own 7, .own 8, .fz D1 w false, .int .i64 w1, .bool w2], .gone, .obj [.map 5], .gone, .gone, .map (.int .i64) true P1 y, .p0 G4 y1 none, .row P1 y2, .row L2 y3] (BU 6 [.live (D0 52 0xe000000000101), .V9 49 [] X1, .gc] [.live (D0 9 0x101), .gc] (E8 (D0 52 0xe000000000101) (DT fu n)) K) := by kernel_rfl
theorem YS (fu : Nat) : R0 Try.prog 6 n6 (Mz fu) := R0.none _ _ _
theorem YB (fu : Nat) : ∀ n, l4 Try.prog 6 (.loop (V1 (N0 n6 10654))) (E8 (D0 52 0xe000000000101) (DT fu n)) := by
 refine H4 (gin := [.live (D0 52 0xe000000000101), .V9 49 [] X1, .gc]) (gout := [.live (D0 9 0x101), .gc]) (k := 300) (Am fu) (YS fu) (by decide) Pq (fun R e s K => ?_) (fun n R e s K r h => ?_)
 ·unfold DT; repeat' split
  all_goals rfl
 ·unfold DT at h; split at h
  case h_2 => cases h
  iterate 6 (split at h; (case h_2 => cases h); rename_i hq; have hq := FT.J0 _ _ hq; subst hq)
  exact (ZC fu n R K _ _ _ _ _ _ _ _ _ _ _).symm.trans h
def Ec {R : Type} (fu : Nat) : Nat -> Int -> (List (List D)) -> Int -> Bool -> (List (D × List D)) -> (List (List D)) -> (List (List D)) -> (List (List D)) -> ((List (List D)) -> Int -> Bool -> (List (D × List D)) -> (List (List D)) -> (List (List D)) -> (List (List D)) -> Option R) -> Option R
 | 0, _, _, _, _, _, _, _, _, _ => none
 | n + 1, x, w, w1, w2, y, y1, y2, y3, k0 => bif decide (x < 60) then bif within (IntKind.i64.wrap (S1 y2.length - 1)) y2.length then S8 fu (cell 1 (elem (IntKind.i64.wrap (S1 y2.length - 1)).toNat y2)).C0 (S1 (cell 1 (elem (IntKind.i64.wrap (S1 y2.length - 1)).toNat y2)).C0.length) fu 0 w w1 w2 y y1 y2 y3 fun u3 N1 J2 B3 A4 G5 Y5 => y7 fu u3 N1 J2 B3 G5 fu 0 A4 Y5 fun B9 W8 => N6 fu (cell 1 (elem (IntKind.i64.wrap (S1 y2.length - 1)).toNat y2)).C0 (S1 (cell 1 (elem (IntKind.i64.wrap (S1 y2.length - 1)).toNat y2)).C0.length) fu 0 u3 N1 J2 B3 B9 G5 W8 fun R9 Q5 H5 I7 M6 q8 H7 => (Ec fu n (IntKind.i64.wrap (x + 1)) R9 Q5 H5 I7 M6 q8 H7 k0) else none else (k0 w w1 w2 y y1 y2 y3)
def Mm (fu n : Nat) : M1 := fun _ e s K => match e, s with
 | [.ptr 0 0, .int .i64 x], [.obj [.X0 6, .ptr 2 0, .own 7, .own 8, .fz U4 w false, .int .i64 w1, .bool w2], .gone, .obj [.map 5], .gone, .gone, .map (.int .i64) true C6 y, .p0 Ag y1 none, .row Cj y2, .row Ci y3] => (match FT.F0 U4 D1 with | true => (match FT.F0 C6 P1 with | true => (match FT.F0 Ag G4 with | true => (match FT.F0 Cj P1 with | true => (match FT.F0 Ci L2 with | true => Ec fu n x w w1 w2 y y1 y2 y3 (fun o_ N1 J2 B3 A4 G5 Y5 => K (.exit 0) (I0 (D0 1 0x1) [.ptr 0 0]) [.obj [.X0 6, .ptr 2 0, .own 7, .own 8, .fz D1 o_ false, .int .i64 N1, .bool J2], .gone, .obj [.map 5], .gone, .gone, .map (.int .i64) true P1 B3, .p0 G4 A4 none, .row P1 G5, .row L2 Y5]) | false => none) | false => none) | false => none) | false => none) | false => none)
 | _, _ => none
def LS (fu : Nat) : Nat -> Option M1 := fun p => match Nat.beq p 5322 with | true => some (Ie 6 [.live (D0 26 0x3800105), .V9 23 [] X1, .gc, .S3 9 1 X1, .gc] (E8 (D0 26 0x3800105) (FH fu fu))) | false => match Nat.beq p 10650 with | true => some (Ie 6 [.live (D0 9 0x125), .gc, .S3 9 1 X1, .gc] (E8 (D0 9 0x125) (DU fu fu))) | false => match Nat.beq p 10654 with | true => some (Ie 6 [.live (D0 52 0xe000000000101), .V9 49 [] X1, .gc] (E8 (D0 52 0xe000000000101) (DT fu fu))) | false => none
theorem nF (fu n : Nat) (R : Type) (K : Y2 -> R1 -> O0 -> Option R) (x : Int) (w : List (List D)) (w1 : Int) (w2 : Bool) (y : List (D × List D)) (y1 y2 y3 : List (List D)) :
  Ec fu (n + 1) x w w1 w2 y y1 y2 y3 (fun o_ N1 J2 B3 A4 G5 Y5 => K (.exit 0) (I0 (D0 1 0x1) [.ptr 0 0]) [.obj [.X0 6, .ptr 2 0, .own 7, .own 8, .fz D1 o_ false, .int .i64 N1, .bool J2], .gone, .obj [.map 5], .gone, .gone, .map (.int .i64) true P1 B3, .p0 G4 A4 none, .row P1 G5, .row L2 Y5]) = n4 Try.prog (QF fu) 300 (LS fu) 20 (V1 (N0 n6 10)) (I0 (D0 9 0x101) [.ptr 0 0, .int .i64 x]) [.obj [.X0 6, .ptr 2 0, .own 7, .own 8, .fz D1 w false, .int .i64 w1, .bool w2], .gone, .obj [.map 5], .gone, .gone, .map (.int .i64) true P1 y, .p0 G4 y1 none, .row P1 y2, .row L2 y3] (BU 6 [.live (D0 9 0x101), .gc, .bb 0 0, .bb 0 2, .bb 0 3, .gc] [.live (D0 1 0x1), .gc] (E8 (D0 9 0x101) (Mm fu n)) K) := by kernel_rfl
theorem lE (fu : Nat) : R0 Try.prog 6 n6 (LS fu) := fun p told h b hb => by
 replace h : LS fu p = some told := h
 unfold LS at h
 split at h
 ·rename_i hp
  cases h
  have := B6 hp
  subst this
  rw [Ty] at hb
  cases hb
  exact C3 (bB fu _)
 ·
  split at h
  ·rename_i hp
   cases h
   have := B6 hp
   subst this
   rw [Pr] at hb
   cases hb
   exact C3 (YC fu _)
  ·
   split at h
   ·rename_i hp
    cases h
    have := B6 hp
    subst this
    rw [Pq] at hb
    cases hb
    exact C3 (YB fu _)
   ·
    cases h
theorem kl (fu : Nat) : ∀ n, l4 Try.prog 6 (.loop (V1 (N0 n6 10))) (E8 (D0 9 0x101) (Mm fu n)) := by
 refine H4 (gin := [.live (D0 9 0x101), .gc, .bb 0 0, .bb 0 2, .bb 0 3, .gc]) (gout := [.live (D0 1 0x1), .gc]) (k := 300) (Am fu) (lE fu) (by decide) eQ (fun R e s K => ?_) (fun n R e s K r h => ?_)
 ·unfold Mm; repeat' split
  all_goals rfl
 ·unfold Mm at h; split at h
  case h_2 => cases h
  iterate 5 (split at h; (case h_2 => cases h); rename_i hq; have hq := FT.J0 _ _ hq; subst hq)
  exact (nF fu n R K _ _ _ _ _ _ _ _).symm.trans h
def oE {R : Type} (fu : Nat) (AG AD AE AA : List (List D)) (AB : Int) (AC : Bool) (AF : List (D × List D)) (k0 : (List (List D)) -> Int -> Bool -> (List (D × List D)) -> (List (List D)) -> (List (List D)) -> (List (List D)) -> Option R) : Option R :=
 Ec fu fu 0 AA AB AC AF AG AD AE fun u3 N1 J2 B3 A4 G5 Y5 => F39 fu A4 G5 Y5 u3 N1 J2 B3 fun B9 W8 R9 => (k0 B9 N1 W8 B3 R9 G5 Y5)
def F15 {R : Type} := shut (@oE R)
theorem fV {R : Type} (fu : Nat) (AG AD AE AA : List (List D)) (AB : Int) (AC : Bool) (AF : List (D × List D)) (k0 : (List (List D)) -> Int -> Bool -> (List (D × List D)) -> (List (List D)) -> (List (List D)) -> (List (List D)) -> Option R) : F15 fu AG AD AE AA AB AC AF k0 = oE fu AG AD AE AA AB AC AF k0 := by unfold F15; rw [O2]
def gj (fu : Nat) : Nat -> Option M1 := fun p => match Nat.beq p 10 with | true => some (Ie 6 [.live (D0 9 0x101), .gc, .bb 0 0, .bb 0 2, .bb 0 3, .gc] (E8 (D0 9 0x101) (Mm fu fu))) | false => none
def t15 (fu : Nat) : J1 := fun _ args s K => match args, s with
 | [.ptr 0 0], [.obj [.X0 1, .ptr 2 0, .own 3, .own 4, .fz U4 AA false, .int .i64 AB, .bool AC], .p0 C6 AG none, .obj [.map 5], .row Ag AD, .row Cj AE, .map (.int .i64) true Ci AF] => (match FT.F0 U4 D1 with | true => (match FT.F0 C6 G4 with | true => (match FT.F0 Ag P1 with | true => (match FT.F0 Cj L2 with | true => (match FT.F0 Ci P1 with | true => F15 fu AG AD AE AA AB AC AF (fun o_ N1 J2 B3 A4 G5 Y5 => K (.tuple []) [.obj [.X0 6, .ptr 2 0, .own 7, .own 8, .fz D1 o_ false, .int .i64 N1, .bool J2], .gone, .obj [.map 5], .gone, .gone, .map (.int .i64) true P1 B3, .p0 G4 A4 none, .row P1 G5, .row L2 Y5]) | false => none) | false => none) | false => none) | false => none) | false => none)
 | _, _ => none
theorem e15 (R : Type) (K : UV -> O0 -> Option R) (fu : Nat) (AG AD AE AA : List (List D)) (AB : Int) (AC : Bool) (AF : List (D × List D)) :
  F15 fu AG AD AE AA AB AC AF (fun o_ N1 J2 B3 A4 G5 Y5 => K (.tuple []) [.obj [.X0 6, .ptr 2 0, .own 7, .own 8, .fz D1 o_ false, .int .i64 N1, .bool J2], .gone, .obj [.map 5], .gone, .gone, .map (.int .i64) true P1 B3, .p0 G4 A4 none, .row P1 G5, .row L2 Y5]) = I6 Try.prog ⟨(QF fu), gj fu⟩ 300 15 [.ptr 0 0] [.obj [.X0 1, .ptr 2 0, .own 3, .own 4, .fz D1 AA false, .int .i64 AB, .bool AC], .p0 G4 AG none, .obj [.map 5], .row P1 AD, .row L2 AE, .map (.int .i64) true P1 AF] (W6 6 [.gc, .X3 0 2 P1, .X3 0 3 L2, .S3 0 4 D1, .gc] K) := (fV fu _ _ _ _ _ _ _ _).trans (by kernel_rfl)
theorem s15 (fu : Nat) : N3 Try.prog 15 (t15 fu) := by
 refine y0 (T := ⟨(QF fu), gj fu⟩) (m := 6) (gout := [.gc, .X3 0 2 P1, .X3 0 3 L2, .S3 0 4 D1, .gc]) (k := 300) (Am fu) (fun fn body hf hb => ?_) (fun R args s K r h => ?_) (fun R args s K r h => ?_)
 ·have hc : body = n6 := by
   have h1 : Try.prog.funcs[15]? = some Try.f15 := rfl
   rw [h1] at hf; cases hf
   have h2 : Try.f15.body = some n6 := rfl
   rw [h2] at hb; cases hb; rfl
  subst hc
  exact fun p told h b hb => by
   replace h : gj fu p = some told := h
   unfold gj at h
   split at h
   ·rename_i hp
    cases h
    have := B6 hp
    subst this
    rw [eQ] at hb
    cases hb
    exact C3 (kl fu _)
   ·
    cases h

 ·unfold t15 at h; split at h
  ·rfl
  ·cases h
 ·unfold t15 at h; split at h
  case h_2 => cases h
  iterate 5 (split at h; (case h_2 => cases h); rename_i hq; have hq := FT.J0 _ _ hq; subst hq)
  exact (e15 R K fu _ _ _ _ _ _ _).symm.trans h
def Ul (fu : Nat) : FuncId -> Option (Bool × J1) := fun f => match Nat.beq f 15 with
 | true => some (false, CA [.gc, .FN 0 0 G4, .X3 0 2 P1, .X3 0 3 L2, .S3 0 4 D1, .gc] (t15 fu))
 | false => (QF fu) f
theorem Dx (fu : Nat) : C2 Try.prog (Ul fu) := by
 intro f own told h
 unfold Ul at h
 split at h
 ·rename_i hb
  cases h
  have := B6 hb
  subst this
  exact O1 (s15 fu)
 ·exact (Am fu) f own told h
end Go.Proofs.Ythlbahcggmbfaaa.V
end
noncomputable section
namespace Go.Proofs.Ythlbahcggmbfaaa.V
set_option maxRecDepth 100000
set_option maxHeartbeats 4000000
def BY : Code := match Try.f5.body with | some c => c | none => .skip
theorem eI : N0 BY 250 = some (.loop (V1 (N0 BY 250))) := by kernel_rfl
def Eb {R : Type} (fu : Nat) (x : List (List D)) (x1 : Int) : Nat -> Int -> (List (List D)) -> Int -> Bool -> (List (List D)) -> (List (List D)) -> (List (List D)) -> (List (D × List D)) -> ((List (List D)) -> Int -> Bool -> (List (List D)) -> (List (List D)) -> (List (List D)) -> (List (D × List D)) -> Option R) -> Option R
 | 0, _, _, _, _, _, _, _, _, _ => none
 | n + 1, x2, w, w1, w2, y, y1, y2, y3, k0 => bif decide (x2 < x1) then bif within x2 x.length then F13 fu [D.int (cell 0 (elem x2.toNat x)).toInt, D.int (cell 1 (elem x2.toNat x)).toInt, D.int (cell 2 (elem x2.toNat x)).toInt] y y1 y2 w w1 w2 y3 (fun u3 N1 J2 B3 A4 => (Eb fu x x1 n (IntKind.i64.wrap (x2 + 1)) u3 N1 J2 B3 y1 A4 y3 k0)) (fun G5 Y5 B9 W8 => (Eb fu x x1 n (IntKind.i64.wrap (x2 + 1)) G5 w1 Y5 B9 y1 W8 y3 k0)) (fun R9 Q5 H5 I7 => (Eb fu x x1 n (IntKind.i64.wrap (x2 + 1)) R9 w1 Q5 H5 y1 y2 I7 k0)) (fun M6 q8 H7 => (Eb fu x x1 n (IntKind.i64.wrap (x2 + 1)) M6 w1 q8 H7 y1 y2 y3 k0)) fun o9 o4 M9 BS Bm => (Eb fu x x1 n (IntKind.i64.wrap (x2 + 1)) o9 w1 o4 M9 Bm y2 BS k0) else none else (k0 w w1 w2 y y1 y2 y3)
def Mg (fu n : Nat) : M1 := fun _ e s K => match e, s with
 | [.ptr 0 0, .fz U4 x false, .int .i64 x1, .int .i64 x2], [.obj [.X0 1, .ptr 2 0, .own 3, .own 4, .fz C6 w false, .int .i64 w1, .bool w2], .p0 Ag y none, .obj [.map 5], .row Cj y1, .row Ci y2, .map (.int .i64) true OP y3] => (match FT.F0 U4 Zg with | true => (match FT.F0 C6 D1 with | true => (match FT.F0 Ag G4 with | true => (match FT.F0 Cj P1 with | true => (match FT.F0 Ci L2 with | true => (match FT.F0 OP P1 with | true => Eb fu x x1 n x2 w w1 w2 y y1 y2 y3 (fun o_ N1 J2 B3 A4 G5 Y5 => K (.exit 0) (I0 (D0 6 0x20) [.ptr 0 0]) [.obj [.X0 1, .ptr 2 0, .own 3, .own 4, .fz D1 o_ false, .int .i64 N1, .bool J2], .p0 G4 B3 none, .obj [.map 5], .row P1 A4, .row L2 G5, .map (.int .i64) true P1 Y5]) | false => none) | false => none) | false => none) | false => none) | false => none) | false => none)
 | _, _ => none
def WW (fu : Nat) : Nat -> Option M1 := fun _ => none
theorem mn (fu n : Nat) (R : Type) (K : Y2 -> R1 -> O0 -> Option R) (x : List (List D)) (x1 x2 : Int) (w : List (List D)) (w1 : Int) (w2 : Bool) (y y1 y2 : List (List D)) (y3 : List (D × List D)) :
  Eb fu x x1 (n + 1) x2 w w1 w2 y y1 y2 y3 (fun o_ N1 J2 B3 A4 G5 Y5 => K (.exit 0) (I0 (D0 6 0x20) [.ptr 0 0]) [.obj [.X0 1, .ptr 2 0, .own 3, .own 4, .fz D1 o_ false, .int .i64 N1, .bool J2], .p0 G4 B3 none, .obj [.map 5], .row P1 A4, .row L2 G5, .map (.int .i64) true P1 Y5]) = n4 Try.prog (Ul fu) 300 (WW fu) 500 (V1 (N0 BY 250)) (I0 (D0 25 0x1c00020) [.ptr 0 0, .fz Zg x false, .int .i64 x1, .int .i64 x2]) [.obj [.X0 1, .ptr 2 0, .own 3, .own 4, .fz D1 w false, .int .i64 w1, .bool w2], .p0 G4 y none, .obj [.map 5], .row P1 y1, .row L2 y2, .map (.int .i64) true P1 y3] (BU 0 [.live (D0 25 0x1c00020), .V9 22 [] Zg, .gc, .X3 0 2 P1, .X3 0 3 L2, .S3 0 4 D1, .gc] [.live (D0 6 0x30), .gc] (E8 (D0 25 0x1c00020) (Mg fu n)) K) := by kernel_rfl
theorem kr (fu : Nat) : R0 Try.prog 0 BY (WW fu) := R0.none _ _ _
theorem kX (fu : Nat) : ∀ n, l4 Try.prog 0 (.loop (V1 (N0 BY 250))) (E8 (D0 25 0x1c00020) (Mg fu n)) := by
 refine H4 (gin := [.live (D0 25 0x1c00020), .V9 22 [] Zg, .gc, .X3 0 2 P1, .X3 0 3 L2, .S3 0 4 D1, .gc]) (gout := [.live (D0 6 0x30), .gc]) (k := 300) (Dx fu) (kr fu) (by decide) eI (fun R e s K => ?_) (fun n R e s K r h => ?_)
 ·unfold Mg; repeat' split
  all_goals rfl
 ·unfold Mg at h; split at h
  case h_2 => cases h
  iterate 6 (split at h; (case h_2 => cases h); rename_i hq; have hq := FT.J0 _ _ hq; subst hq)
  exact (mn fu n R K _ _ _ _ _ _ _ _ _ _).symm.trans h
theorem XQ : N0 BY 1023 = some (G3 (N0 BY 1023)) := by kernel_rfl
theorem Tx : N0 BY 32762 = some (.loop (V1 (N0 BY 32762))) := by kernel_rfl
def Dq {R : Type} (fu : Nat) (head x : List (List D)) (x1 c : Int) : Nat -> Int -> (List (List D)) -> ((List (List D)) -> Option R) -> ((List (List D)) -> Option R) -> Option R
 | 0, _, _, _, _ => none
 | n + 1, x2, y, k0, k1 => bif decide (x2 < x1) then bif within x2 x.length then bif within (cell 0 (elem x2.toNat x)).toInt y.length then R7 (elem (cell 0 (elem x2.toNat x)).toInt.toNat y) fun Z0 => F17 fu (cell 0 Z0).toInt (cell 1 Z0).toInt (cell 2 Z0).C0 (cell 3 Z0).toBool (cell 4 Z0).C0 (cell 5 Z0).toBool (cell 6 Z0).toInt (cell 7 Z0).toInt (cell 8 Z0).toInt (cell 9 Z0).toInt (cell 10 Z0).toBool (cell 11 Z0).toInt (S7 (setAt y (cell 0 (elem x2.toNat x)).toInt.toNat [D.int (cell 0 Z0).toInt, D.int (cell 1 Z0).toInt, D.row (cell 2 Z0).C0, D.bool (cell 3 Z0).toBool, D.row (cell 4 Z0).C0, D.bool (cell 5 Z0).toBool, D.int (cell 6 Z0).toInt, D.int (cell 7 Z0).toInt, D.int (cell 8 Z0).toInt, D.int (cell 9 Z0).toInt, D.bool (cell 10 Z0).toBool, D.int (cell 11 Z0).toInt]) fun Yz => bif !decide ((cell 6 Z0).toInt = S1 head.length) then (k0 Yz) else R7 (elem (cell 0 (elem x2.toNat x)).toInt.toNat Yz) fun Z2 => F16 fu (cell 0 Z2).toInt (cell 1 Z2).toInt (cell 2 Z2).C0 (cell 3 Z2).toBool (cell 4 Z2).C0 (cell 5 Z2).toBool (cell 6 Z2).toInt (cell 7 Z2).toInt (cell 8 Z2).toInt (cell 9 Z2).toInt (cell 10 Z2).toBool (cell 11 Z2).toInt (S7 (setAt Yz (cell 0 (elem x2.toNat x)).toInt.toNat [D.int (cell 0 Z2).toInt, D.int (cell 1 Z2).toInt, D.row (cell 2 Z2).C0, D.bool (cell 3 Z2).toBool, D.row (cell 4 Z2).C0, D.bool (cell 5 Z2).toBool, D.int (cell 6 Z2).toInt, D.int (cell 7 Z2).toInt, D.int (cell 8 Z2).toInt, D.int (cell 9 Z2).toInt, D.bool (cell 10 Z2).toBool, D.int (cell 11 Z2).toInt]) fun Zh => F18 fu (cell 4 Z2).C0 head fun A4 => bif !A4 then (k0 Zh) else R7 (elem (cell 0 (elem x2.toNat x)).toInt.toNat Zh) fun Z5 => F19 fu (cell 0 Z5).toInt (cell 1 Z5).toInt (cell 2 Z5).C0 (cell 3 Z5).toBool (cell 4 Z5).C0 (cell 5 Z5).toBool (cell 6 Z5).toInt (cell 7 Z5).toInt (cell 8 Z5).toInt (cell 9 Z5).toInt (cell 10 Z5).toBool (cell 11 Z5).toInt (S7 (setAt Zh (cell 0 (elem x2.toNat x)).toInt.toNat [D.int (cell 0 Z5).toInt, D.int (cell 1 Z5).toInt, D.row (cell 2 Z5).C0, D.bool (cell 3 Z5).toBool, D.row (cell 4 Z5).C0, D.bool (cell 5 Z5).toBool, D.int (cell 6 Z5).toInt, D.int (cell 7 Z5).toInt, D.int (cell 8 Z5).toInt, D.int (cell 9 Z5).toInt, D.bool (cell 10 Z5).toBool, D.int (cell 11 Z5).toInt]) fun wU => bif !decide ((cell 1 Z5).toInt = c) then (k0 wU) else (Dq fu head x x1 c n (IntKind.i64.wrap (x2 + 1)) wU k0 k1)))) else none else none else (k1 y)
def FG (fu n : Nat) : M1 := fun _ e s K => match e, s with
 | [.ptr 0 0, .ptr 1 0, .fz U4 head false, .fz C6 x false, .int .i64 x1, .int .i64 x2], [.obj [.X0 2, .ptr 3 0, .own 4, .own 5, .fz Ag w false, .int .i64 w1, .bool w2], .obj [.int .i64 c, .fz Cj c1 false, .bool c2], .p0 Ci y none, .obj [.map 6], .row OP y1, .row pG y2, .map (.int .i64) true wY y3] => (match FT.F0 U4 D1 with | true => (match FT.F0 C6 X1 with | true => (match FT.F0 Ag D1 with | true => (match FT.F0 Cj X1 with | true => (match FT.F0 Ci G4 with | true => (match FT.F0 OP P1 with | true => (match FT.F0 pG L2 with | true => (match FT.F0 wY P1 with | true => Dq fu head x x1 c n x2 y (fun o_ => K .ret (I0 (D0 10 0x230) [.bool (false), .ptr 0 0, .fz D1 (head) false]) [.obj [.X0 1, .ptr 2 0, .own 3, .own 4, .fz D1 (w) false, .int .i64 (w1), .bool (w2)], .p0 G4 o_ none, .obj [.map 5], .row P1 (y1), .row L2 (y2), .map (.int .i64) true P1 (y3)]) (fun o_ => K (.exit 2) (I0 (D0 10 0x220) [.ptr 0 0, .fz D1 (head) false]) [.obj [.X0 1, .ptr 2 0, .own 3, .own 4, .fz D1 (w) false, .int .i64 (w1), .bool (w2)], .p0 G4 o_ none, .obj [.map 5], .row P1 (y1), .row L2 (y2), .map (.int .i64) true P1 (y3)]) | false => none) | false => none) | false => none) | false => none) | false => none) | false => none) | false => none) | false => none)
 | _, _ => none
def PF (fu : Nat) : Nat -> Option M1 := fun _ => none
theorem dB (fu n : Nat) (R : Type) (K : Y2 -> R1 -> O0 -> Option R) (head x : List (List D)) (x1 x2 : Int) (w : List (List D)) (w1 : Int) (w2 : Bool) (c : Int) (c1 : List (List D)) (c2 : Bool) (y y1 y2 : List (List D)) (y3 : List (D × List D)) :
  Dq fu head x x1 c (n + 1) x2 y (fun o_ => K .ret (I0 (D0 10 0x230) [.bool (false), .ptr 0 0, .fz D1 (head) false]) [.obj [.X0 1, .ptr 2 0, .own 3, .own 4, .fz D1 (w) false, .int .i64 (w1), .bool (w2)], .p0 G4 o_ none, .obj [.map 5], .row P1 (y1), .row L2 (y2), .map (.int .i64) true P1 (y3)]) (fun o_ => K (.exit 2) (I0 (D0 10 0x220) [.ptr 0 0, .fz D1 (head) false]) [.obj [.X0 1, .ptr 2 0, .own 3, .own 4, .fz D1 (w) false, .int .i64 (w1), .bool (w2)], .p0 G4 o_ none, .obj [.map 5], .row P1 (y1), .row L2 (y2), .map (.int .i64) true P1 (y3)]) = n4 Try.prog (Ul fu) 300 (PF fu) 65524 (V1 (N0 BY 32762)) (I0 (D0 78 0x38000000000000000320) [.ptr 0 0, .ptr 1 0, .fz D1 head false, .fz X1 x false, .int .i64 x1, .int .i64 x2]) [.obj [.X0 2, .ptr 3 0, .own 4, .own 5, .fz D1 w false, .int .i64 w1, .bool w2], .obj [.int .i64 c, .fz X1 c1 false, .bool c2], .p0 G4 y none, .obj [.map 6], .row P1 y1, .row L2 y2, .map (.int .i64) true P1 y3] (BU 0 [.live (D0 78 0x38000000000000000320), .V9 9 [] D1, .V9 75 [] X1, .gc, .X3 0 2 P1, .X3 0 3 L2, .S3 0 4 D1, .S3 1 1 X1, .gc] [.live (D0 10 0x230), .gc] (E8 (D0 78 0x38000000000000000320) (FG fu n)) K) := by kernel_rfl
theorem bL (fu : Nat) : R0 Try.prog 0 BY (PF fu) := R0.none _ _ _
theorem bA (fu : Nat) : ∀ n, l4 Try.prog 0 (.loop (V1 (N0 BY 32762))) (E8 (D0 78 0x38000000000000000320) (FG fu n)) := by
 refine H4 (gin := [.live (D0 78 0x38000000000000000320), .V9 9 [] D1, .V9 75 [] X1, .gc, .X3 0 2 P1, .X3 0 3 L2, .S3 0 4 D1, .S3 1 1 X1, .gc]) (gout := [.live (D0 10 0x230), .gc]) (k := 300) (Dx fu) (bL fu) (by decide) Tx (fun R e s K => ?_) (fun n R e s K r h => ?_)
 ·unfold FG; repeat' split
  all_goals rfl
 ·unfold FG at h; split at h
  case h_2 => cases h
  iterate 8 (split at h; (case h_2 => cases h); rename_i hq; have hq := FT.J0 _ _ hq; subst hq)
  exact (dB fu n R K _ _ _ _ _ _ _ _ _ _ _ _ _ _).symm.trans h
def BH {R : Type} (fu : Nat) (w : List (List D)) (w1 : Int) (w2 : Bool) (c : Int) (c1 y y1 y2 : List (List D)) (y3 : List (D × List D)) (k0 : Bool -> Option R) : Option R :=
 F15 fu y y1 y2 w w1 w2 y3 fun u3 N1 J2 B3 A4 G5 Y5 => bif within 0 c1.length then bif within (cell 0 (elem 0 c1)).toInt A4.length then R7 (elem (cell 0 (elem 0 c1)).toInt.toNat A4) fun Z7 => F16 fu (cell 0 Z7).toInt (cell 1 Z7).toInt (cell 2 Z7).C0 (cell 3 Z7).toBool (cell 4 Z7).C0 (cell 5 Z7).toBool (cell 6 Z7).toInt (cell 7 Z7).toInt (cell 8 Z7).toInt (cell 9 Z7).toInt (cell 10 Z7).toBool (cell 11 Z7).toInt (S7 (setAt A4 (cell 0 (elem 0 c1)).toInt.toNat [D.int (cell 0 Z7).toInt, D.int (cell 1 Z7).toInt, D.row (cell 2 Z7).C0, D.bool (cell 3 Z7).toBool, D.row (cell 4 Z7).C0, D.bool (cell 5 Z7).toBool, D.int (cell 6 Z7).toInt, D.int (cell 7 Z7).toInt, D.int (cell 8 Z7).toInt, D.int (cell 9 Z7).toInt, D.bool (cell 10 Z7).toBool, D.int (cell 11 Z7).toInt]) fun yG => Dq fu (cell 4 Z7).C0 c1 (S1 c1.length) c fu 0 yG (fun R9 => (k0 false)) fun Q5 => bif !J2 then bif decide (0 < S1 (cell 4 Z7).C0.length) then bif within (IntKind.i64.wrap (S1 (cell 4 Z7).C0.length - 1)) (cell 4 Z7).C0.length then F14 fu N1 fun H5 => bif Bi (cell 0 (elem (IntKind.i64.wrap (S1 (cell 4 Z7).C0.length - 1)).toNat (cell 4 Z7).C0)).toStr H5 then F10 fu fun I7 => (k0 I7) else (k0 false) else none else (k0 false) else (k0 false)) else none else none
def QG (fu : Nat) : M1 := fun _ e s K => match e, s with
 | [.ptr 0 0, .ptr 1 0], [.obj [.X0 2, .ptr 3 0, .own 4, .own 5, .fz U4 w false, .int .i64 w1, .bool w2], .obj [.int .i64 c, .fz C6 c1 false, .bool c2], .p0 Ag y none, .obj [.map 6], .row Cj y1, .row Ci y2, .map (.int .i64) true OP y3] => (match FT.F0 U4 D1 with | true => (match FT.F0 C6 X1 with | true => (match FT.F0 Ag G4 with | true => (match FT.F0 Cj P1 with | true => (match FT.F0 Ci L2 with | true => (match FT.F0 OP P1 with | true => BH fu w w1 w2 c c1 y y1 y2 y3 (fun o_ => K .ret (I0 (D0 5 0x10) [.bool o_]) []) | false => none) | false => none) | false => none) | false => none) | false => none) | false => none)
 | _, _ => none
def IN (fu : Nat) : Nat -> Option M1 := fun p => match Nat.beq p 32762 with | true => some (Ie 0 [.live (D0 78 0x38000000000000000320), .V9 9 [] D1, .V9 75 [] X1, .gc, .X3 0 2 P1, .X3 0 3 L2, .S3 0 4 D1, .S3 1 1 X1, .gc] (E8 (D0 78 0x38000000000000000320) (FG fu fu))) | false => none
theorem jB (fu : Nat) (R : Type) (K : Y2 -> R1 -> O0 -> Option R) (w : List (List D)) (w1 : Int) (w2 : Bool) (c : Int) (c1 : List (List D)) (c2 : Bool) (y y1 y2 : List (List D)) (y3 : List (D × List D)) :
  BH fu w w1 w2 c c1 y y1 y2 y3 (fun o_ => K .ret (I0 (D0 5 0x10) [.bool o_]) []) = n4 Try.prog (Ul fu) 300 (IN fu) 1023 (G3 (N0 BY 1023)) (I0 (D0 9 0x120) [.ptr 0 0, .ptr 1 0]) [.obj [.X0 2, .ptr 3 0, .own 4, .own 5, .fz D1 w false, .int .i64 w1, .bool w2], .obj [.int .i64 c, .fz X1 c1 false, .bool c2], .p0 G4 y none, .obj [.map 6], .row P1 y1, .row L2 y2, .map (.int .i64) true P1 y3] (UL 0 [.live (D0 5 0x10), .gc] K) := by kernel_rfl
theorem gr (fu : Nat) : R0 Try.prog 0 BY (IN fu) := fun p told h b hb => by
 replace h : IN fu p = some told := h
 unfold IN at h
 split at h
 ·rename_i hp
  cases h
  have := B6 hp
  subst this
  rw [Tx] at hb
  cases hb
  exact C3 (bA fu _)
 ·
  cases h
theorem gJ (fu : Nat) : l4 Try.prog 0 (G3 (N0 BY 1023)) (E8 (D0 9 0x120) (QG fu)) := by
 refine J5 (gout := [.live (D0 5 0x10), .gc]) (k := 300) (Dx fu) (gr fu) (by decide) XQ (fun R e s K r h => ?_)
 unfold QG at h; split at h
 case h_2 => cases h
 iterate 6 (split at h; (case h_2 => cases h); rename_i hq; have hq := FT.J0 _ _ hq; subst hq)
 exact (jB fu R K _ _ _ _ _ _ _ _ _ _).symm.trans h
def vR {R : Type} (fu : Nat) (n_ : Int) (l : List (List D)) (k0 : Bool -> Option R) : Option R :=
 bif decide (60 < S1 l.length) then F10 fu fun u3 => (k0 u3) else F12 fu n_ fun N1 => F11 fu N1 ((k0 false)) fun J2 B3 A4 => Eb fu l (S1 l.length) fu 0 [] 0 false J2 B3 [] A4 fun G5 Y5 B9 W8 R9 Q5 H5 => F15 fu W8 R9 Q5 G5 Y5 B9 H5 fun I7 M6 q8 H7 o9 o4 M9 => bif within (IntKind.i64.wrap (S1 o4.length - 1)) o4.length then bif (cell 2 (elem (IntKind.i64.wrap (S1 o4.length - 1)).toNat o4)).toBool then (k0 false) else bif decide (S1 (cell 1 (elem (IntKind.i64.wrap (S1 o4.length - 1)).toNat o4)).C0.length = 0) then (k0 false) else bif within 0 (cell 1 (elem (IntKind.i64.wrap (S1 o4.length - 1)).toNat o4)).C0.length then F13 fu [D.int 0, D.int (cell 0 (elem 0 (cell 1 (elem (IntKind.i64.wrap (S1 o4.length - 1)).toNat o4)).C0)).toInt, D.int 0] o9 o4 M9 I7 M6 q8 H7 (fun BS Bm Dd FV HQ => BH fu BS Bm Dd (cell 0 (elem (IntKind.i64.wrap (S1 o4.length - 1)).toNat o4)).toInt (cell 1 (elem (IntKind.i64.wrap (S1 o4.length - 1)).toNat o4)).C0 FV o4 HQ H7 fun JK => (k0 JK)) (fun HP JJ NI NH => BH fu HP M6 JJ (cell 0 (elem (IntKind.i64.wrap (S1 o4.length - 1)).toNat o4)).toInt (cell 1 (elem (IntKind.i64.wrap (S1 o4.length - 1)).toNat o4)).C0 NI o4 NH H7 fun VJ => (k0 VJ)) (fun JI Qh NG Qg => BH fu JI M6 Qh (cell 0 (elem (IntKind.i64.wrap (S1 o4.length - 1)).toNat o4)).toInt (cell 1 (elem (IntKind.i64.wrap (S1 o4.length - 1)).toNat o4)).C0 NG o4 M9 Qg fun Qf => (k0 Qf)) (fun Qe OU Qd => BH fu Qe M6 OU (cell 0 (elem (IntKind.i64.wrap (S1 o4.length - 1)).toNat o4)).toInt (cell 1 (elem (IntKind.i64.wrap (S1 o4.length - 1)).toNat o4)).C0 Qd o4 M9 H7 fun Qc => (k0 Qc)) fun Qb Qa OT QZ QY => BH fu Qb M6 Qa (cell 0 (elem (IntKind.i64.wrap (S1 o4.length - 1)).toNat o4)).toInt (cell 1 (elem (IntKind.i64.wrap (S1 o4.length - 1)).toNat o4)).C0 OT QY M9 QZ fun VI => (k0 VI) else none else none
def F5 {R : Type} := shut (@vR R)
theorem kO {R : Type} (fu : Nat) (n_ : Int) (l : List (List D)) (k0 : Bool -> Option R) : F5 fu n_ l k0 = vR fu n_ l k0 := by unfold F5; rw [O2]
def sD (fu : Nat) : Nat -> Option M1 := fun p => match Nat.beq p 250 with | true => some (Ie 0 [.live (D0 25 0x1c00020), .V9 22 [] Zg, .gc, .X3 0 2 P1, .X3 0 3 L2, .S3 0 4 D1, .gc] (E8 (D0 25 0x1c00020) (Mg fu fu))) | false => match Nat.beq p 1023 with | true => some (Ie 0 [.live (D0 9 0x120), .gc, .X3 0 2 P1, .X3 0 3 L2, .S3 0 4 D1, .S3 1 1 X1, .gc] (E8 (D0 9 0x120) (QG fu))) | false => none
def t5 (fu : Nat) : J1 := fun _ args s K => match args, s with
 | [.int .u8 n_, .fz U4 l false], [] => (match FT.F0 U4 Zg with | true => F5 fu n_ l (fun o_ => K (.bool o_) []) | false => none)
 | _, _ => none
theorem e5 (R : Type) (K : UV -> O0 -> Option R) (fu : Nat) (n_ : Int) (l : List (List D)) :
  F5 fu n_ l (fun o_ => K (.bool o_) []) = I6 Try.prog ⟨(Ul fu), sD fu⟩ 300 5 [.int .u8 n_, .fz Zg l false] [] (W6 0 [.gc] K) := (kO fu _ _ _).trans (by kernel_rfl)
theorem s5 (fu : Nat) : N3 Try.prog 5 (t5 fu) := by
 refine y0 (T := ⟨(Ul fu), sD fu⟩) (m := 0) (gout := [.gc]) (k := 300) (Dx fu) (fun fn body hf hb => ?_) (fun R args s K r h => ?_) (fun R args s K r h => ?_)
 ·have hc : body = BY := by
   have h1 : Try.prog.funcs[5]? = some Try.f5 := rfl
   rw [h1] at hf; cases hf
   have h2 : Try.f5.body = some BY := rfl
   rw [h2] at hb; cases hb; rfl
  subst hc
  exact fun p told h b hb => by
   replace h : sD fu p = some told := h
   unfold sD at h
   split at h
   ·rename_i hp
    cases h
    have := B6 hp
    subst this
    rw [eI] at hb
    cases hb
    exact C3 (kX fu _)
   ·
    split at h
    ·rename_i hp
     cases h
     have := B6 hp
     subst this
     rw [XQ] at hb
     cases hb
     exact C3 (gJ fu)
    ·
     cases h

 ·unfold t5 at h; split at h
  ·rfl
  ·cases h
 ·unfold t5 at h; split at h
  case h_2 => cases h
  split at h
  case h_2 => cases h
  rename_i hq
  have hq := FT.J0 _ _ hq
  subst hq
  exact (e5 R K fu _ _).symm.trans h
end Go.Proofs.Ythlbahcggmbfaaa.V
end
namespace Go.Proofs.Ythlbahcggmbfaaa.V
theorem tT (fu : Nat) (H : ∀ (pA oz : List D), Tz [FT.int IntKind.u8] pA -> Tz [FT.row 24 [FT.int IntKind.i64, FT.int IntKind.i64, FT.int IntKind.i64]] oz -> F5 fu ((cell 0 pA).toInt) ((cell 0 oz).C0) (fun o => some o) = some true) : pE Try.prog 5 Try.f5.params.toList := by
 refine Sq (by kernel_rfl) (by kernel_rfl) SJ (s5 fu) (fun Ij hw => ?_)
 have sK : Try.f5.params.toList = [5, 22] := rfl
 rw [sK] at hw
 cases hw with
 | cons t1 ts1 fts1 pA dss1 Wv sd UC =>
  have e1 : flat Try.prog 20 5 = some [FT.int IntKind.u8] := by kernel_rfl
  rw [e1] at Wv; cases Wv
  cases UC with
  | cons t2 ts2 mY oz dss2 mP xl NR =>
   have e2 : flat Try.prog 20 22 = some [FT.row 24 [FT.int IntKind.i64, FT.int IntKind.i64, FT.int IntKind.i64]] := by kernel_rfl
   rw [e2] at mP; cases mP
   cases NR
   have h1 : t5 fu Bool (Pj Try.prog Try.f5.params.toList [pA, oz]) [] XL = F5 fu ((cell 0 pA).toInt) ((cell 0 oz).C0) (fun o => some o) := by kernel_rfl
   exact h1.trans (H pA oz sd xl)
theorem j5 {x : Int} (h0 : -9223372036854775808 <= x) (h1 : x <= 9223372036854775807) : IntKind.i64.wrap x = x := by
 rw [IntKind.wrap_i64]; omega
theorem W5 {i : Nat} (h : i <= 9223372036854775806) : IntKind.i64.wrap ((i : Int) + 1) = ((i + 1 : Nat) : Int) := by rw [j5 (by omega) (by omega)]; rfl
theorem Q4 {n b : Nat} (hn : n <= 1000000) (hb : b <= 1000) : fits n b = true := by
 unfold fits R2
 have : n * b <= 1000000 * 1000 := Nat.mul_le_mul hn hb
 exact decide_eq_true ⟨by omega, by omega⟩
theorem D4 {j n : Nat} (h : j < n) : within (j : Int) n = true := by
 unfold within; exact decide_eq_true ⟨by omega, by omega⟩
theorem A7 {j : Int} {n : Nat} (h0 : 0 <= j) (h : j < n) : within j n = true := by
 unfold within; exact decide_eq_true ⟨h0, by omega⟩
theorem N2 {a b : Int} (h : a < b) : decide (a < b) = true := decide_eq_true h
theorem W1 {a b : Int} (h : ¬ a < b) : decide (a < b) = false := decide_eq_false h
theorem le_true {a b : Int} (h : a <= b) : decide (a <= b) = true := decide_eq_true h
theorem u5 {a b : Int} (h : ¬ a <= b) : decide (a <= b) = false := decide_eq_false h
theorem eq_true {a b : Int} (h : a = b) : decide (a = b) = true := decide_eq_true h
theorem eq_false {a b : Int} (h : ¬ a = b) : decide (a = b) = false := decide_eq_false h
theorem Mn (x : ByteArray) : Bi x x = true := by simp [Bi]
theorem Fl {i : Nat} {l : List (List D)} (h : i < l.length) : elem i l ∈ l := by
 unfold elem
 rw [List.getD_eq_getElem?_getD, List.getElem?_eq_getElem h]
 exact List.getElem_mem h
theorem Xa.Ms {bytes : Nat} {B0 : List FT} {d : D} (h : Xa (.row bytes B0) d) : d.C0.length * bytes <= reachBytes := by
 cases h with
 | nil => simp [D.C0]
 | row _ _ rows hb hl hr => simp only [D.C0]; first | exact hb | (simpa using hb)
theorem Xa.rows {bytes : Nat} {B0 : List FT} {d : D} (h : Xa (.row bytes B0) d) : ∀ r ∈ d.C0, Tz B0 r := by
 cases h with
 | nil => intro r hr; cases hr
 | row _ _ rows hb hl hr =>
  intro r hm
  refine ⟨hl r hm, fun j ft d h1 h2 => hr r hm j ft d h1 h2⟩
theorem Tz.cell {B0 : List FT} {ds : List D} (h : Tz B0 ds) {j : Nat} {ft : FT} (hj : B0[j]? = some ft) : Xa ft (V.cell j ds) := by
 have R3 : j < ds.length := by rw [h.len]; exact (List.getElem?_eq_some_iff.1 hj).1
 have hd := List.getElem?_eq_getElem R3
 unfold V.cell
 rw [List.getD_eq_getElem?_getD, hd]
 exact h.at_ j ft _ hj hd
variable {R : Type}
def Rp (v : Int) : List (List D) -> Nat -> Int
 | [], _ => -1
 | r :: rs, i => if v = (cell 0 r).toInt then (i : Int) else Rp v rs (i + 1)
def n7 (l : List (List D)) (v : Int) : Int := Rp v l 0
theorem Ph (v : Int) : ∀ (l : List (List D)) (i : Nat), Rp v l i = -1 \/ ((i : Int) <= Rp v l i /\ Rp v l i < i + l.length)
 | [], i => .inl rfl
 | r :: rs, i => by
  unfold Rp
  split
  ·right; simp only [List.length_cons]; omega
  ·rcases Ph v rs (i + 1) with h | h
   ·exact .inl h
   ·right; simp only [List.length_cons]; omega
theorem Jh (l : List (List D)) (v : Int) : -1 <= n7 l v /\ n7 l v < l.length := by
 rcases Ph v l 0 with h | h
 ·unfold n7; omega
 ·unfold n7; omega
theorem VT (fu : Nat) (s : List (List D)) (v : Int) (hs : s.length <= 1000000) (k0 : Int -> Option R) (k1 : Option R) : ∀ (n i : Nat), s.length + 1 <= i + n -> i <= s.length ->
  Jn fu s v (S1 s.length) n (i : Int) k0 k1 = if Rp v (s.drop i) i = -1 then k1 else k0 (Rp v (s.drop i) i) := by
 intro n
 induction n with
 | zero => intro i h1 h2; omega
 | succ n ih =>
  intro i h1 h2
  unfold Jn
  by_cases hi : i < s.length
  ·rw [N2 (show (i : Int) < S1 s.length by unfold S1; omega), cond_true, D4 hi, cond_true, Int.toNat_natCast]
   have he : elem i s = s[i] := by unfold elem; rw [List.getD_eq_getElem?_getD, List.getElem?_eq_getElem hi]; rfl
   rw [he, List.drop_eq_getElem_cons hi]
   unfold Rp
   by_cases hv : v = (cell 0 s[i]).toInt
   ·rw [eq_true hv, cond_true, if_pos hv, if_neg (by omega)]
   ·rw [eq_false hv, cond_false, if_neg hv, W5 (by omega)]
    exact ih (i + 1) (by omega) (by omega)
  ·rw [W1 (show ¬ (i : Int) < S1 s.length by unfold S1; omega), cond_false, List.drop_eq_nil_of_le (by omega)]
   unfold Rp
   rw [if_pos rfl]
theorem Sw (fu : Nat) (s : List (List D)) (v : Int) (hs : s.length <= 1000) (hf : 1001 <= fu) (k : Int -> Option R) : F42 fu s v k = k (n7 s v) := by
 rw [ez]
 unfold nb
 have := VT fu s v (by omega) (fun o => k o) (k (-1)) fu 0 (by omega) (by omega)
 refine this.trans ?_
 rw [List.drop_zero]
 unfold n7
 split
 ·rename_i h; rw [h]
 ·rfl
theorem Tq (fu : Nat) (c : List D) (v : Int) (hs : (cell 1 c).C0.length <= 1000) (hf : 1001 <= fu) (k : Int -> Option R) : F22 fu c v k = k (n7 (cell 1 c).C0 v) := by
 rw [fO]
 unfold oA
 exact Sw fu _ v hs hf k
def V5 (mem : List (List D)) (v Nv : Int) : Int :=
 if n7 mem v < 0 then -1 else if n7 mem v + Nv < 0 then -1 else if (mem.length : Int) <= n7 mem v + Nv then -1 else (cell 0 (elem (n7 mem v + Nv).toNat mem)).toInt
theorem Pf (fu : Nat) (c : List D) (v Nv : Int) (hb : -10 <= Nv /\ Nv <= 10) (hs : (cell 1 c).C0.length <= 1000) (hf : 1001 <= fu) (k : Int -> Option R) : F44 fu c v Nv k = k (V5 (cell 1 c).C0 v Nv) := by
 rw [eu]
 unfold nZ
 refine (Tq fu [D.int (cell 0 c).toInt, D.row (cell 1 c).C0, D.bool (cell 2 c).toBool] v hs hf _).trans ?_
 have e1 : (cell 1 [D.int (cell 0 c).toInt, D.row (cell 1 c).C0, D.bool (cell 2 c).toBool]).C0 = (cell 1 c).C0 := rfl
 simp only [e1]
 obtain ⟨r1, r2⟩ := Jh (cell 1 c).C0 v
 unfold V5
 by_cases h1 : n7 (cell 1 c).C0 v < 0
 ·rw [N2 h1, cond_true, if_pos h1]
 ·rw [W1 h1, cond_false, if_neg h1, j5 (by omega) (by omega)]
  by_cases h2 : n7 (cell 1 c).C0 v + Nv < 0
  ·rw [N2 h2, cond_true, if_pos h2]
  ·rw [W1 h2, cond_false, if_neg h2]
   by_cases h3 : ((cell 1 c).C0.length : Int) <= n7 (cell 1 c).C0 v + Nv
   ·rw [le_true (show S1 (cell 1 c).C0.length <= _ from h3), cond_true, if_pos h3]
   ·rw [u5 (show ¬ S1 (cell 1 c).C0.length <= _ from h3), cond_false, if_neg h3, A7 (by omega) (by omega), cond_true]
structure L1 where
 id : Int
 ep : Int
 mem : List (List D)
 join : Bool
 row : List (List D)
 live : Bool
 E0 : Int
 told : Int
 P0 : Int
 base : Int
 heard : Bool
 need : Int
def L1.cells (r : L1) : List D := [D.int r.id, D.int r.ep, D.row r.mem, D.bool r.join, D.row r.row, D.bool r.live, D.int r.E0, D.int r.told, D.int r.P0, D.int r.base, D.bool r.heard, D.int r.need]
def L1.next (r : L1) : Int := V5 r.mem r.id 1
def L1.before (r : L1) : Int := V5 r.mem r.id (-1)
def L1.last (r : L1) : Bool := decide (0 < r.mem.length) && decide (n7 r.mem r.id = (r.mem.length : Int) - 1)
def L1.tail (r : L1) : Bool := r.live && r.last
def L1.head (r : L1) : Bool := r.live && decide (n7 r.mem r.id = 0)
def L1.complete (r : L1) : Bool := r.tail && (r.join && (r.heard && decide (r.need <= (r.row.length : Int))))
structure L1.Ok (r : L1) (n : Nat) : Prop where
 mem : r.mem.length <= 100
 row : r.row.length <= n
 Az : 0 <= r.P0
 P0 : r.P0 <= n
 Bq : 0 <= r.E0
 E0 : r.E0 <= n
 Dm : 0 <= r.base
 base : r.base <= n
section
variable {fu n : Nat} {r : L1}
theorem Wh (hf : 1001 <= fu) (hm : r.mem.length <= 1000) (k : Int -> Option R) : F26 fu [D.int r.ep, D.row r.mem, D.bool r.join] r.id k = k r.next := by
 rw [fK]; unfold nu; exact Pf fu [D.int r.ep, D.row r.mem, D.bool r.join] r.id 1 (by omega) hm hf k
theorem Pg (hf : 1001 <= fu) (hm : r.mem.length <= 1000) (k : Int -> Option R) : F25 fu [D.int r.ep, D.row r.mem, D.bool r.join] r.id k = k r.before := by
 rw [fL]; unfold nv; exact Pf fu [D.int r.ep, D.row r.mem, D.bool r.join] r.id (-1) (by omega) hm hf k
theorem Wk (hf : 1001 <= fu) (hm : r.mem.length <= 1000) (k : Bool -> Option R) : F43 fu r.id r.ep r.mem r.join r.row r.live r.E0 r.told r.P0 r.base r.heard r.need k = k r.last := by
 rw [ey]
 unfold na
 unfold L1.last
 by_cases h : 0 < r.mem.length
 ·rw [N2 (show (0 : Int) < S1 r.mem.length by unfold S1; omega), cond_true, Tq fu [D.int r.ep, D.row r.mem, D.bool r.join] r.id hm hf]
  show k (decide (n7 r.mem r.id = _)) = _
  rw [j5 (by unfold S1; omega) (by unfold S1; omega), decide_eq_true h]; rfl
 ·rw [W1 (show ¬ (0 : Int) < S1 r.mem.length by unfold S1; omega), cond_false, decide_eq_false h]; rfl
theorem LM (hf : 1001 <= fu) (hm : r.mem.length <= 1000) (k : Bool -> Option R) : F24 fu r.id r.ep r.mem r.join r.row r.live r.E0 r.told r.P0 r.base r.heard r.need k = k r.tail := by
 rw [fM]
 unfold ny
 unfold L1.tail
 cases hl : r.live with
 | true =>
  rw [cond_true]
  have := Wk (r := r) hf hm k
  rw [hl] at this
  exact this
 | false => rfl
theorem Lb (hf : 1001 <= fu) (hm : r.mem.length <= 1000) (k : Bool -> Option R) : F23 fu r.id r.ep r.mem r.join r.row r.live r.E0 r.told r.P0 r.base r.heard r.need k = k r.head := by
 rw [fN]
 unfold nz
 unfold L1.head
 cases hl : r.live with
 | true => rw [cond_true, Tq fu [D.int r.ep, D.row r.mem, D.bool r.join] r.id hm hf]; rfl
 | false => rfl
theorem Td (hf : 1001 <= fu) (hm : r.mem.length <= 1000) (k : Bool -> Option R) : F27 fu r.id r.ep r.mem r.join r.row r.live r.E0 r.told r.P0 r.base r.heard r.need k = k r.complete := by
 rw [fJ]
 unfold nt
 rw [LM hf hm]
 unfold L1.complete
 cases r.tail <;> cases r.join <;> cases r.heard <;> rfl
def L1.pass (r : L1) (index : Int) (has : Bool) : List (List D) :=
 if r.next < 0 then [] else [[D.int 0, D.int r.id, D.int r.next, D.int r.ep, D.int index, D.int r.base, D.bool has, D.str (if has then (cell 0 (elem index.toNat r.row)).toStr else ByteArray.mk #[])]]
theorem QU (hf : 1001 <= fu) (hm : r.mem.length <= 1000) (index : Int) (has : Bool) (hi : has = true -> 0 <= index /\ index < r.row.length) (k : List (List D) -> Option R) :
  F48 fu index has r.id r.ep r.mem r.join r.row r.live r.E0 r.told r.P0 r.base r.heard r.need k = k (r.pass index has) := by
 rw [eh]
 unfold nV
 rw [Wh hf hm]
 unfold L1.pass
 by_cases h : r.next < 0
 ·rw [N2 h, cond_true, if_pos h]
 ·rw [W1 h, cond_false, if_neg h]
  cases has with
  | true => rw [cond_true, A7 (hi rfl).1 (hi rfl).2, cond_true]; rfl
  | false => rfl
theorem FQ (r : L1) (index : Int) (has : Bool) : (r.pass index has).length <= 1 := by unfold L1.pass; split <;> simp
def L1.K6 (r : L1) : Nat -> Int -> List (List D) -> List (List D)
 | 0, _, out => out
 | m + 1, k, out => if k < r.row.length /\ k < r.P0 + 8 then r.K6 m (k + 1) (out ++ r.pass k true) else out
def L1.again (r : L1) : List (List D) :=
 if r.live then (if 0 < (r.K6 9 r.P0 []).length then r.K6 9 r.P0 [] else r.pass r.row.length false) else []
theorem Vy (hf : 1001 <= fu) (hr : r.Ok n) (hn : n <= 1000000) (k : List (List D) -> Option R) : ∀ (m ov : Nat) (i : Int) (out : List (List D)), m + 1 <= ov -> 0 <= i -> i <= r.P0 + 8 -> r.P0 + 9 <= i + m -> out.length <= 100 -> out.length + m <= 100 ->
  Ga fu r.id r.ep r.mem r.join r.row r.live r.E0 r.told r.P0 r.base r.heard r.need ov i out k = k (r.K6 m i out) := by
 have ha := hr.P0
 have F4 := hr.row
 intro m
 induction m with
 | zero => intro ov i out h1 h2 h3 h4; omega
 | succ m ih =>
  intro ov i out h1 h2 h3 h4 h5 h6
  obtain ⟨f2, rfl⟩ : ∃ f2, ov = f2 + 1 := ⟨ov - 1, by omega⟩
  unfold Ga L1.K6
  rw [j5 (x := r.P0 + 8) (by have := hr.Az; omega) (by omega)]
  by_cases hi : i < r.row.length
  ·rw [N2 (show i < S1 r.row.length by unfold S1; omega), cond_true]
   by_cases hj : i < r.P0 + 8
   ·rw [N2 hj, cond_true, QU hf (by have := hr.mem; omega) i true (fun _ => ⟨h2, hi⟩), if_pos ⟨hi, hj⟩]
    have hp := FQ r i true
    rw [Q4 (by omega) (by omega), cond_true, j5 (by omega) (by omega)]
    exact ih f2 (i + 1) _ (by omega) (by omega) (by omega) (by omega) (by simp; omega) (by simp; omega)
   ·rw [W1 hj, cond_false, if_neg (fun h => hj h.2)]
  ·rw [W1 (show ¬ i < S1 r.row.length by unfold S1; omega), cond_false, if_neg (fun h => hi h.1)]
theorem OD (r : L1) : ∀ (m : Nat) (i : Int) (out : List (List D)), (r.K6 m i out).length <= out.length + m
 | 0, _, out => by simp [L1.K6]
 | m + 1, i, out => by
  unfold L1.K6
  split
  ·have h1 := OD r m (i + 1) (out ++ r.pass i true)
   have h2 := FQ r i true
   rw [List.length_append] at h1
   omega
  ·omega
theorem GW (r : L1) : r.again.length <= 9 := by
 have h1 := OD r 9 r.P0 []
 have h2 := FQ r r.row.length false
 simp only [List.length_nil] at h1
 unfold L1.again
 split
 ·split <;> omega
 ·simp
theorem OC (hf : 1001 <= fu) (hr : r.Ok n) (hn : n <= 1000000) (k : List (List D) -> Option R) : F31 fu r.id r.ep r.mem r.join r.row r.live r.E0 r.told r.P0 r.base r.heard r.need k = k r.again := by
 rw [fF]
 unfold nk
 unfold L1.again
 cases hl : r.live with
 | false => rfl
 | true =>
  simp only [Bool.not_true, cond_false, if_true]
  have h0 := hr.Az
  have h1 := Vy (r := r) hf hr hn (fun u3 => bif decide (0 < S1 u3.length) then k u3 else F48 fu (S1 r.row.length) false r.id r.ep r.mem r.join r.row true r.E0 r.told r.P0 r.base r.heard r.need fun N1 => k N1) 9 fu r.P0 [] (by omega) h0 (by omega) (by omega) (by simp) (by simp)
  rw [hl] at h1
  refine h1.trans ?_
  by_cases hp : 0 < (r.K6 9 r.P0 []).length
  ·rw [N2 (show (0 : Int) < S1 (r.K6 9 r.P0 []).length by unfold S1; omega), cond_true, if_pos hp]
  ·rw [W1 (show ¬ (0 : Int) < S1 (r.K6 9 r.P0 []).length by unfold S1; omega), cond_false, if_neg hp]
   have h2 := QU (r := r) hf (by have := hr.mem; omega) r.row.length false (fun h => by cases h) k
   rw [hl] at h2
   exact h2
end
end Go.Proofs.Ythlbahcggmbfaaa.V
namespace Go.Proofs.Ythlbahcggmbfaaa.V
variable {R : Type}
def L1.add (r : L1) (cmd : ByteArray) : L1 × List (List D) :=
 if ({ r with row := r.row ++ [[D.str cmd]] } : L1).tail then ({ r with row := r.row ++ [[D.str cmd]], E0 := ((r.row ++ [[D.str cmd]]).length : Nat) }, [])
 else ({ r with row := r.row ++ [[D.str cmd]] }, ({ r with row := r.row ++ [[D.str cmd]] } : L1).pass (((r.row ++ [[D.str cmd]]).length : Nat) - 1) true)
def L1.BA (r : L1) : List (List D) := if r.before < 0 then [] else [[D.int 1, D.int r.id, D.int r.before, D.int r.ep, D.int r.E0, D.int 0, D.bool false, D.str (ByteArray.mk #[])]]
def L1.Q0 (r : L1) (m : List D) : L1 := { r with heard := true, need := if (cell 5 m).toInt > r.need then (cell 5 m).toInt else r.need }
def L1.N4 (r : L1) (m : List D) : L1 × List (List D) :=
 if (cell 6 m).toBool = true /\ (cell 4 m).toInt = r.row.length then (((r.Q0 m).add (cell 7 m).toStr).1, ((r.Q0 m).add (cell 7 m).toStr).2 ++ ((r.Q0 m).add (cell 7 m).toStr).1.BA)
 else (r.Q0 m, (r.Q0 m).BA)
def L1.F3 (r : L1) (i : Int) : Int := if (if (r.row.length : Int) < i then (r.row.length : Int) else i) > r.P0 then (if (r.row.length : Int) < i then (r.row.length : Int) else i) else r.P0
def L1.E2 (r : L1) (m : List D) : L1 × List (List D) :=
 if r.F3 (cell 4 m).toInt <= r.E0 then ({ r with P0 := r.F3 (cell 4 m).toInt }, [])
 else ({ r with P0 := r.F3 (cell 4 m).toInt, E0 := r.F3 (cell 4 m).toInt }, ({ r with P0 := r.F3 (cell 4 m).toInt, E0 := r.F3 (cell 4 m).toInt } : L1).BA)
def L1.Eo (r : L1) (m : List D) : Bool := r.live && (decide ((cell 2 m).toInt = r.id) && (decide ((cell 3 m).toInt = r.ep) && !decide ((cell 1 m).toInt < 0)))
def L1.L0 (r : L1) (m : List D) : L1 × List (List D) :=
 if r.Eo m then
  if (cell 0 m).toInt = 0 /\ (cell 1 m).toInt = r.before then r.N4 m
  else if (cell 0 m).toInt = 1 /\ (cell 1 m).toInt = r.next then r.E2 m
  else (r, [])
 else (r, [])
section
variable {fu n : Nat} {r : L1}
theorem bK (l : List (List D)) : part l 0 l.length = l := by unfold part; simp
theorem eF (hf : 1001 <= fu) (hr : r.Ok n) (hn : n <= 100000) (cmd : ByteArray) (k : List (List D) -> Int -> List (List D) -> Option R) :
  F47 fu cmd r.id r.ep r.mem r.join r.row r.live r.E0 r.told r.P0 r.base r.heard r.need k = k (r.add cmd).1.row (r.add cmd).1.E0 (r.add cmd).2 := by
 have hm := hr.mem
 have F4 := hr.row
 rw [ej]
 unfold nW
 have ht := fun k => LM (R := R) (r := { r with row := r.row ++ [[D.str cmd]] }) hf (by show r.mem.length <= 1000; omega) k
 have hp := fun k => QU (R := R) (r := { r with row := r.row ++ [[D.str cmd]] }) hf (by show r.mem.length <= 1000; omega) (((r.row ++ [[D.str cmd]]).length : Nat) - 1) true (fun _ => by
  show _ /\ _ < ((r.row ++ [[D.str cmd]]).length : Int)
  simp only [List.length_append, List.length_cons, List.length_nil]; omega) k
 by_cases h0 : r.row = []
 ·rw [h0] at ht hp
  simp only [h0, List.nil_append] at ht hp ⊢
  unfold L1.add
  simp only [h0, List.nil_append]
  refine (ht _).trans ?_
  cases ({ r with row := [[D.str cmd]] } : L1).tail with
  | true => rfl
  | false => exact hp _
 ·have hl : ¬ S1 r.row.length = 0 := by unfold S1; intro e; exact h0 (List.length_eq_zero_iff.1 (by omega))
  rw [eq_false hl]
  rw [show (false && false) = false from rfl, cond_false]
  have hu : (decide ((0 : Int) <= 0 /\ 0 <= S1 r.row.length) && H9 (S1 r.row.length) r.row.length && decide (S1 r.row.length = S1 r.row.length)) = true := by
   unfold H9 S1
   simp
  have ep : part r.row 0 (S1 r.row.length).toNat = r.row := by unfold S1; rw [Int.toNat_natCast, bK]
  rw [hu, cond_true, ep, Q4 (by omega) (by omega), cond_true]
  refine (ht _).trans ?_
  unfold L1.add
  cases ({ r with row := r.row ++ [[D.str cmd]] } : L1).tail with
  | true => rfl
  | false =>
   have : IntKind.i64.wrap (S1 (r.row ++ [[D.str cmd]]).length - 1) = ((r.row ++ [[D.str cmd]]).length : Nat) - 1 := by unfold S1; exact j5 (by simp only [List.length_append, List.length_cons, List.length_nil]; omega) (by simp only [List.length_append, List.length_cons, List.length_nil]; omega)
   simp only [this, cond_false]
   exact hp (fun B3 => k (r.row ++ [[D.str cmd]]) r.E0 B3)
theorem WC (hf : 1001 <= fu) (hm : r.mem.length <= 1000) (k : List (List D) -> Option R) : F55 fu r.id r.ep r.mem r.join r.row r.live r.E0 r.told r.P0 r.base r.heard r.need k = k r.BA := by
 rw [ef]
 unfold nT
 rw [Pg hf hm]
 unfold L1.BA
 by_cases h : r.before < 0
 ·rw [N2 h, cond_true, if_pos h]
 ·rw [W1 h, cond_false, if_neg h]
theorem Ir (r : L1) : r.BA.length <= 1 := by unfold L1.BA; split <;> simp
theorem Li (r : L1) (cmd : ByteArray) : (r.add cmd).2.length <= 1 := by
 unfold L1.add
 split
 ·simp
 ·exact FQ _ _ _
theorem Uy (r : L1) (m : List D) : (r.N4 m).2.length <= 2 := by
 unfold L1.N4
 split
 ·have h1 := Li (r.Q0 m) (cell 7 m).toStr
  have h2 := Ir ((r.Q0 m).add (cell 7 m).toStr).1
  simp only [List.length_append]; omega
 ·have := Ir (r.Q0 m); simp only; omega
theorem KI (r : L1) (m : List D) : (r.L0 m).2.length <= 2 := by
 unfold L1.L0
 split
 ·split
  ·exact Uy r m
  ·split
   ·unfold L1.E2
    split
    ·simp
    ·have := Ir ({ r with P0 := r.F3 (cell 4 m).toInt, E0 := r.F3 (cell 4 m).toInt } : L1); simp only; omega
   ·simp
 ·simp
theorem add_same (r : L1) (cmd : ByteArray) : (r.add cmd).1 = { r with row := r.row ++ [[D.str cmd]], E0 := (r.add cmd).1.E0 } := by
 unfold L1.add; split <;> rfl
theorem L1.Ok.mono (hr : r.Ok n) {m : Nat} (h : n <= m) : r.Ok m :=
 ⟨hr.mem, Nat.le_trans hr.row h, hr.Az, by have := hr.P0; omega, hr.Bq, by have := hr.E0; omega, hr.Dm, by have := hr.base; omega⟩
theorem eG (hr : r.Ok n) (cmd : ByteArray) : (r.add cmd).1.Ok (n + 1) := by
 have h1 := hr.row
 have h2 := hr.E0
 unfold L1.add
 split
 ·exact ⟨hr.mem, by simp; omega, hr.Az, by have := hr.P0; simp only; omega, by simp only; omega, by simp; omega, hr.Dm, by have := hr.base; simp only; omega⟩
 ·exact ⟨hr.mem, by simp; omega, hr.Az, by have := hr.P0; simp only; omega, hr.Bq, by simp only; omega, hr.Dm, by have := hr.base; simp only; omega⟩
theorem HW (hr : r.Ok n) (m : List D) : (r.Q0 m).Ok n := ⟨hr.mem, hr.row, hr.Az, hr.P0, hr.Bq, hr.E0, hr.Dm, hr.base⟩
theorem On (hr : r.Ok n) (i : Int) : 0 <= r.F3 i /\ r.F3 i <= n := by
 have h1 := hr.row
 have h2 := hr.P0
 have h3 := hr.Az
 unfold L1.F3
 split
 ·split <;> omega
 ·omega
theorem Uv (hr : r.Ok n) (m : List D) : (r.L0 m).1.Ok (n + 1) := by
 have up := hr.mono (Nat.le_succ n)
 obtain ⟨h1, h2⟩ := On hr (cell 4 m).toInt
 unfold L1.L0
 split
 ·split
  ·unfold L1.N4
   split
   ·exact eG (HW hr m) _
   ·exact HW up m
  ·split
   ·unfold L1.E2
    split
    ·exact ⟨up.mem, up.row, h1, by simp only; omega, up.Bq, up.E0, up.Dm, up.base⟩
    ·exact ⟨up.mem, up.row, h1, by simp only; omega, h1, by simp only; omega, up.Dm, up.base⟩
   ·exact up
 ·exact up
theorem Da {m : List D} (h : ¬ ((cell 6 m).toBool = true /\ (cell 4 m).toInt = r.row.length)) : r.N4 m = (r.Q0 m, (r.Q0 m).BA) := if_neg h
theorem EF {m : List D} (h : (cell 6 m).toBool = true /\ (cell 4 m).toInt = r.row.length) : r.N4 m = (((r.Q0 m).add (cell 7 m).toStr).1, ((r.Q0 m).add (cell 7 m).toStr).2 ++ ((r.Q0 m).add (cell 7 m).toStr).1.BA) := if_pos h
theorem YR (hf : 1001 <= fu) (hr : r.Ok n) (hn : n <= 100000) (m : List D) (k : List (List D) -> Int -> Int -> List (List D) -> Option R) :
  F45 fu [D.int (cell 0 m).toInt, D.int (cell 1 m).toInt, D.int (cell 2 m).toInt, D.int (cell 3 m).toInt, D.int (cell 4 m).toInt, D.int (cell 5 m).toInt, D.bool (cell 6 m).toBool, D.str (cell 7 m).toStr] r.id r.ep r.mem r.join r.row r.live r.E0 r.told r.P0 r.base r.heard r.need k
   = k (r.N4 m).1.row (r.N4 m).1.E0 (r.N4 m).1.need (r.N4 m).2 := by
 have hm := hr.mem
 rw [er]
 unfold nY
 show (bif (cell 6 m).toBool then bif decide ((cell 4 m).toInt = S1 r.row.length) then _ else _ else _) = _
 have hk := WC (R := R) (r := r.Q0 m) hf (by show r.mem.length <= 1000; omega) (fun A4 => bif fits A4.length 72 then k r.row r.E0 (r.Q0 m).need A4 else none)
 have Ds : (bif fits ((r.Q0 m).BA).length 72 then k r.row r.E0 (r.Q0 m).need (r.Q0 m).BA else none) = k r.row r.E0 (r.Q0 m).need (r.Q0 m).BA := by
  have := Ir (r.Q0 m)
  rw [Q4 (by omega) (by omega), cond_true]
 cases h6 : (cell 6 m).toBool with
 | false =>
  rw [Da (by rw [h6]; exact fun h => by cases h.1), cond_false]
  exact hk.trans Ds
 | true =>
  rw [cond_true]
  by_cases h4 : (cell 4 m).toInt = r.row.length
  ·rw [eq_true (show (cell 4 m).toInt = S1 r.row.length from h4), cond_true, EF ⟨h6, h4⟩]
   refine (eF (R := R) (r := r.Q0 m) hf (HW hr m) hn (cell 7 m).toStr _).trans ?_
   have hs := add_same (r.Q0 m) (cell 7 m).toStr
   have ha := WC (R := R) (r := ((r.Q0 m).add (cell 7 m).toStr).1) hf (by rw [hs]; show r.mem.length <= 1000; omega)
    (fun B3 => bif fits (((r.Q0 m).add (cell 7 m).toStr).2.length + B3.length) 72 then k ((r.Q0 m).add (cell 7 m).toStr).1.row ((r.Q0 m).add (cell 7 m).toStr).1.E0 (r.Q0 m).need (((r.Q0 m).add (cell 7 m).toStr).2 ++ B3) else none)
   have e1 : ((r.Q0 m).add (cell 7 m).toStr).1.id = r.id := by rw [hs]; rfl
   have e2 : ((r.Q0 m).add (cell 7 m).toStr).1.ep = r.ep := by rw [hs]; rfl
   have e3 : ((r.Q0 m).add (cell 7 m).toStr).1.mem = r.mem := by rw [hs]; rfl
   have e4 : ((r.Q0 m).add (cell 7 m).toStr).1.join = r.join := by rw [hs]; rfl
   have e5 : ((r.Q0 m).add (cell 7 m).toStr).1.live = r.live := by rw [hs]; rfl
   have e6 : ((r.Q0 m).add (cell 7 m).toStr).1.told = r.told := by rw [hs]; rfl
   have e7 : ((r.Q0 m).add (cell 7 m).toStr).1.P0 = r.P0 := by rw [hs]; rfl
   have e8 : ((r.Q0 m).add (cell 7 m).toStr).1.base = r.base := by rw [hs]; rfl
   have e9 : ((r.Q0 m).add (cell 7 m).toStr).1.heard = true := by rw [hs]; rfl
   have e10 : ((r.Q0 m).add (cell 7 m).toStr).1.need = (r.Q0 m).need := by rw [hs]
   rw [e1, e2, e3, e4, e5, e6, e7, e8, e9, e10] at ha
   refine ha.trans ?_
   have l1 := Ir ((r.Q0 m).add (cell 7 m).toStr).1
   have l2 := Li (r.Q0 m) (cell 7 m).toStr
   rw [Q4 (by omega) (by omega), cond_true, e10]
  ·rw [eq_false (show ¬ (cell 4 m).toInt = S1 r.row.length from h4), cond_false, Da (fun h => h4 h.2)]
   exact hk.trans Ds
theorem LG (hf : 1001 <= fu) (hr : r.Ok n) (m : List D) (k : Int -> Int -> List (List D) -> Option R) :
  F46 fu [D.int (cell 0 m).toInt, D.int (cell 1 m).toInt, D.int (cell 2 m).toInt, D.int (cell 3 m).toInt, D.int (cell 4 m).toInt, D.int (cell 5 m).toInt, D.bool (cell 6 m).toBool, D.str (cell 7 m).toStr] r.id r.ep r.mem r.join r.row r.live r.E0 r.told r.P0 r.base r.heard r.need k
   = k (r.E2 m).1.E0 (r.E2 m).1.P0 (r.E2 m).2 := by
 have hm := hr.mem
 rw [ek]
 unfold nX
 show (bif decide (r.F3 (cell 4 m).toInt <= r.E0) then k r.E0 (r.F3 (cell 4 m).toInt) [] else F55 fu r.id r.ep r.mem r.join r.row r.live (r.F3 (cell 4 m).toInt) r.told (r.F3 (cell 4 m).toInt) r.base r.heard r.need fun u3 => k (r.F3 (cell 4 m).toInt) (r.F3 (cell 4 m).toInt) u3) = _
 unfold L1.E2
 by_cases h : r.F3 (cell 4 m).toInt <= r.E0
 ·rw [le_true h, cond_true, if_pos h]
 ·rw [u5 h, cond_false, if_neg h]
  exact WC (R := R) (r := { r with P0 := r.F3 (cell 4 m).toInt, E0 := r.F3 (cell 4 m).toInt }) hf (by show r.mem.length <= 1000; omega) _
end
end Go.Proofs.Ythlbahcggmbfaaa.V
namespace Go.Proofs.Ythlbahcggmbfaaa.V
variable {R : Type}
section
variable {fu n : Nat} {r : L1}
theorem EL {m : List D} (h : r.Eo m = false) : r.L0 m = (r, []) := by unfold L1.L0; rw [h]; rfl
theorem Uu (hf : 1001 <= fu) (hr : r.Ok n) (hn : n <= 100000) (m : List D) (k : List (List D) -> Int -> Int -> Bool -> Int -> List (List D) -> Option R) :
    F28 fu m r.id r.ep r.mem r.join r.row r.live r.E0 r.told r.P0 r.base r.heard r.need k
      = k (r.L0 m).1.row (r.L0 m).1.E0 (r.L0 m).1.P0 (r.L0 m).1.heard (r.L0 m).1.need (r.L0 m).2 := by
  have hm := hr.mem
  have uI : r.mem.length <= 1000 := by omega
  rw [fI]
  unfold nr
  have no : ∀ q, r.L0 m = (r, []) -> q = k r.row r.E0 r.P0 r.heard r.need [] -> q = k (r.L0 m).1.row (r.L0 m).1.E0 (r.L0 m).1.P0 (r.L0 m).1.heard (r.L0 m).1.need (r.L0 m).2 := fun q h1 h2 => by rw [h1]; exact h2
  by_cases hl : r.live = true
  · rw [hl]
    simp only [Bool.not_true, cond_false]
    by_cases h2 : (cell 2 m).toInt = r.id
    · rw [eq_true h2]
      simp only [Bool.not_true, cond_false]
      by_cases h3 : (cell 3 m).toInt = r.ep
      · rw [eq_true h3]
        simp only [Bool.not_true, cond_false]
        by_cases h1 : (cell 1 m).toInt < 0
        · rw [N2 h1, cond_true]
          refine no _ (EL ?_) rfl
          unfold L1.Eo; rw [N2 h1]; simp
        · rw [W1 h1, cond_false]
          have qv : r.Eo m = true := by unfold L1.Eo; rw [hl, eq_true h2, eq_true h3, W1 h1]; rfl
          have gV : r.L0 m = if (cell 0 m).toInt = 0 /\ (cell 1 m).toInt = r.before then r.N4 m else if (cell 0 m).toInt = 1 /\ (cell 1 m).toInt = r.next then r.E2 m else (r, []) := by
            unfold L1.L0; rw [qv]; rfl
          have nM : (cell 0 m).toInt = 1 -> ¬ ((cell 0 m).toInt = 0 /\ (cell 1 m).toInt = r.before) -> (F26 fu [D.int r.ep, D.row r.mem, D.bool r.join] r.id fun G5 => bif decide ((cell 1 m).toInt = G5) then F46 fu [D.int (cell 0 m).toInt, D.int (cell 1 m).toInt, D.int (cell 2 m).toInt, D.int (cell 3 m).toInt, D.int (cell 4 m).toInt, D.int (cell 5 m).toInt, D.bool (cell 6 m).toBool, D.str (cell 7 m).toStr] r.id r.ep r.mem r.join r.row true r.E0 r.told r.P0 r.base r.heard r.need fun Y5 B9 W8 => (k r.row Y5 B9 r.heard r.need W8) else (k r.row r.E0 r.P0 r.heard r.need [])) = k (r.L0 m).1.row (r.L0 m).1.E0 (r.L0 m).1.P0 (r.L0 m).1.heard (r.L0 m).1.need (r.L0 m).2 := by
            intro hk Ds
            rw [Wh hf uI, gV, if_neg Ds]
            by_cases hx : (cell 1 m).toInt = r.next
            · rw [eq_true hx, cond_true, if_pos ⟨hk, hx⟩]
              have := LG (R := R) hf hr m (fun Y5 B9 W8 => k r.row Y5 B9 r.heard r.need W8)
              rw [hl] at this
              refine this.trans ?_
              unfold L1.E2
              split <;> rfl
            · rw [eq_false hx, cond_false, if_neg (fun h => hx h.2)]
          by_cases h0 : (cell 0 m).toInt = 0
          · rw [eq_true h0, cond_true, Pg hf uI]
            by_cases hb : (cell 1 m).toInt = r.before
            · rw [eq_true hb, cond_true, gV, if_pos ⟨h0, hb⟩]
              have := YR (R := R) hf hr hn m (fun N1 J2 B3 A4 => k N1 J2 r.P0 true B3 A4)
              rw [hl] at this
              refine this.trans ?_
              have e1 : (r.N4 m).1.P0 = r.P0 /\ (r.N4 m).1.heard = true := by
                unfold L1.N4
                split
                · rw [add_same]; exact ⟨rfl, rfl⟩
                · exact ⟨rfl, rfl⟩
              rw [e1.1, e1.2]
            · rw [eq_false hb, cond_false]
              by_cases hk : (cell 0 m).toInt = 1
              · omega
              · rw [eq_false hk, cond_false, gV, if_neg (fun h => hb h.2), if_neg (fun h => hk h.1)]
          · rw [eq_false h0, cond_false]
            by_cases hk : (cell 0 m).toInt = 1
            · rw [eq_true hk, cond_true]
              exact nM hk (fun h => h0 h.1)
            · rw [eq_false hk, cond_false, gV, if_neg (fun h => h0 h.1), if_neg (fun h => hk h.1)]
      · rw [eq_false h3]
        simp only [Bool.not_false, cond_true]
        refine no _ (EL ?_) rfl
        unfold L1.Eo; rw [eq_false h3]; simp
    · rw [eq_false h2]
      simp only [Bool.not_false, cond_true]
      refine no _ (EL ?_) rfl
      unfold L1.Eo; rw [eq_false h2]; simp
  · have hl : r.live = false := by simpa using hl
    rw [hl]
    simp only [Bool.not_false, cond_true]
    refine no _ (EL ?_) rfl
    unfold L1.Eo; rw [hl]; rfl
def L1.order (r : L1) (cmd : ByteArray) : L1 × List (List D) := if r.head then r.add cmd else (r, [])
theorem bO (hf : 1001 <= fu) (hr : r.Ok n) (hn : n <= 100000) (cmd : ByteArray) (k : Int -> Int -> List (List D) -> Int -> List (List D) -> Option R) :
    F30 fu cmd r.id r.ep r.mem r.join r.row r.live r.E0 r.told r.P0 r.base r.heard r.need k
      = if r.head then k (r.order cmd).1.row.length 0 (r.order cmd).1.row (r.order cmd).1.E0 (r.order cmd).2 else k 0 10 r.row r.E0 [] := by
  have hm := hr.mem
  rw [fG]
  unfold np
  rw [Lb hf (by omega)]
  unfold L1.order
  cases r.head with
  | false => rfl
  | true =>
    simp only [Bool.not_true, cond_false, if_true]
    exact eF (R := R) hf hr hn cmd (fun N1 J2 B3 => k (S1 N1.length) 0 N1 J2 B3)
def L1.B1 (r : L1) (c : List D) : L1 :=
  if r.ep < (cell 0 c).toInt then
    (if ({ r with ep := (cell 0 c).toInt, mem := (cell 1 c).C0, join := (cell 2 c).toBool } : L1).last && (cell 2 c).toBool
     then { r with ep := (cell 0 c).toInt, mem := (cell 1 c).C0, join := (cell 2 c).toBool, row := [], E0 := 0, told := 0 }
     else { r with ep := (cell 0 c).toInt, mem := (cell 1 c).C0, join := (cell 2 c).toBool })
  else { r with join := r.join && (cell 2 c).toBool }
def L1.F1 (r : L1) : L1 := { r with live := decide (0 <= n7 r.mem r.id) }
def L1.S2 (r : L1) : L1 := if r.tail then { r with E0 := (r.row.length : Nat) } else r
def L1.V2 (r : L1) (w7 : Bool) : L1 := if w7 then r else { r with P0 := 0, base := (r.row.length : Nat), heard := false, need := 0 }
def L1.J3 (r : L1) (c : List D) : L1 × List (List D) :=
  if (cell 0 c).toInt < r.ep then (r, [])
  else if (r.B1 c).F1.live then (((r.B1 c).F1.S2.V2 (r.live && decide ((cell 0 c).toInt = r.ep))), ((r.B1 c).F1.S2.V2 (r.live && decide ((cell 0 c).toInt = r.ep))).again)
  else ((r.B1 c).F1, [])
theorem Pn (hf : 1001 <= fu) (hr : r.Ok n) (hn : n <= 100000) (w7 : Bool) (k : Int -> Int -> Bool -> Int -> List (List D) -> Option R) :
    GZ fu w7 r.id r.ep r.mem r.join r.row r.live r.E0 r.told r.P0 r.base r.heard r.need k = k (r.V2 w7).P0 (r.V2 w7).base (r.V2 w7).heard (r.V2 w7).need (r.V2 w7).again := by
  unfold GZ
  cases w7 with
  | true =>
    simp only [Bool.not_true, cond_false]
    exact OC (R := R) hf hr (by omega) (fun o => k r.P0 r.base r.heard r.need o)
  | false =>
    simp only [Bool.not_false, cond_true]
    have h1 := hr.row
    exact OC (R := R) (r := { r with P0 := 0, base := (r.row.length : Nat), heard := false, need := 0 }) (n := n) hf ⟨hr.mem, hr.row, by simp only; omega, by simp only; omega, hr.Bq, hr.E0, by simp only; omega, by simp only; omega⟩ (by omega) (fun o => k 0 (S1 r.row.length) false 0 o)
theorem ZP (hr : r.Ok n) : r.S2.Ok n := by
  have h1 := hr.row
  unfold L1.S2
  split
  · exact ⟨hr.mem, hr.row, hr.Az, hr.P0, by simp only; omega, by simp only; omega, hr.Dm, hr.base⟩
  · exact hr
theorem ZO (hr : r.Ok n) (w7 : Bool) : (r.V2 w7).Ok n := by
  have h1 := hr.row
  unfold L1.V2
  split
  · exact hr
  · exact ⟨hr.mem, hr.row, by simp only; omega, by simp only; omega, hr.Bq, hr.E0, by simp only; omega, by simp only; omega⟩
theorem Ji (hr : r.Ok n) : r.F1.Ok n := ⟨hr.mem, hr.row, hr.Az, hr.P0, hr.Bq, hr.E0, hr.Dm, hr.base⟩
theorem Jj (hr : r.Ok n) {c : List D} (hc : (cell 1 c).C0.length <= 100) : (r.B1 c).Ok n := by
  unfold L1.B1
  split
  · split
    · exact ⟨hc, Nat.zero_le _, hr.Az, hr.P0, Int.le_refl _, by simp only; omega, hr.Dm, hr.base⟩
    · exact ⟨hc, hr.row, hr.Az, hr.P0, hr.Bq, hr.E0, hr.Dm, hr.base⟩
  · exact ⟨hr.mem, hr.row, hr.Az, hr.P0, hr.Bq, hr.E0, hr.Dm, hr.base⟩
theorem eD (hf : 1001 <= fu) (hr : r.Ok n) (hn : n <= 100000) (w7 : Bool) (k : Bool -> Int -> Int -> Int -> Bool -> Int -> List (List D) -> Option R) :
    DM fu w7 r.id r.ep r.mem r.join r.row r.E0 r.told r.P0 r.base r.heard r.need k
      = if r.F1.live then k true (r.F1.S2.V2 w7).E0 (r.F1.S2.V2 w7).P0 (r.F1.S2.V2 w7).base (r.F1.S2.V2 w7).heard (r.F1.S2.V2 w7).need (r.F1.S2.V2 w7).again
        else k false r.E0 r.P0 r.base r.heard r.need [] := by
  have hm := hr.mem
  unfold DM
  refine (Tq fu [D.int r.ep, D.row r.mem, D.bool r.join] r.id (by show r.mem.length <= 1000; omega) hf _).trans ?_
  have e1 : (cell 1 [D.int r.ep, D.row r.mem, D.bool r.join]).C0 = r.mem := rfl
  simp only [e1]
  have Iu : r.F1.live = decide (0 <= n7 r.mem r.id) := rfl
  by_cases h : 0 <= n7 r.mem r.id
  · rw [le_true h]
    simp only [Bool.not_true, cond_false]
    rw [if_pos (by rw [Iu, le_true h])]
    have NR := Ji hr
    have ht := fun k => LM (R := R) (r := r.F1) hf (by show r.mem.length <= 1000; omega) k
    have e2 : ∀ k, F24 (R := R) fu r.id r.ep r.mem r.join r.row true r.E0 r.told r.P0 r.base r.heard r.need k = k r.F1.tail := fun k => by
      have := ht k
      rw [Iu, le_true h] at this
      exact this
    rw [e2]
    unfold L1.S2
    have hc := hr.row
    cases OY : r.F1.tail with
    | true =>
      rw [cond_true]
      simp only [if_true]
      have := Pn (R := R) (r := { r.F1 with E0 := (r.row.length : Nat) }) (n := n) hf ⟨NR.mem, NR.row, NR.Az, NR.P0, by simp only; omega, by simp only; omega, NR.Dm, NR.base⟩ hn w7 (fun J2 B3 A4 G5 Y5 => k true (S1 r.row.length) J2 B3 A4 G5 Y5)
      have e : ({ r.F1 with E0 := (r.row.length : Nat) } : L1).live = true := by show r.F1.live = true; rw [Iu, le_true h]
      rw [e] at this
      refine this.trans ?_
      have e3 : (({ r.F1 with E0 := (r.F1.row.length : Nat) } : L1).V2 w7).E0 = S1 r.row.length := by unfold L1.V2; split <;> rfl
      rw [e3]; rfl
    | false =>
      rw [cond_false]
      simp only [Bool.false_eq_true, if_false]
      have := Pn (R := R) (r := r.F1) hf NR hn w7 (fun B9 W8 R9 Q5 H5 => k true r.E0 B9 W8 R9 Q5 H5)
      rw [Iu, le_true h] at this
      refine this.trans ?_
      have e3 : (r.F1.V2 w7).E0 = r.E0 := by unfold L1.V2; split <;> rfl
      rw [e3]
  · rw [u5 h]
    simp only [Bool.not_false, cond_true]
    rw [if_neg (by rw [Iu, u5 h]; simp)]
theorem eE (hf : 1001 <= fu) (hr : r.Ok n) (hn : n <= 100000) (w7 : Bool) (c : List D) (hc : (cell 1 c).C0.length <= 100) (k : Int -> List (List D) -> Bool -> List (List D) -> Bool -> Int -> Int -> Int -> Int -> Bool -> Int -> List (List D) -> Option R) :
    Hn fu w7 r.id r.ep r.mem r.join r.row r.live r.E0 r.told r.P0 r.base r.heard r.need (cell 0 c).toInt (cell 1 c).C0 (cell 2 c).toBool k
      = if (r.B1 c).F1.live then k (r.B1 c).ep (r.B1 c).mem (r.B1 c).join (r.B1 c).row true ((r.B1 c).F1.S2.V2 w7).E0 (r.B1 c).told ((r.B1 c).F1.S2.V2 w7).P0 ((r.B1 c).F1.S2.V2 w7).base ((r.B1 c).F1.S2.V2 w7).heard ((r.B1 c).F1.S2.V2 w7).need ((r.B1 c).F1.S2.V2 w7).again
        else k (r.B1 c).ep (r.B1 c).mem (r.B1 c).join (r.B1 c).row false (r.B1 c).E0 (r.B1 c).told (r.B1 c).P0 (r.B1 c).base (r.B1 c).heard (r.B1 c).need [] := by
  have hm := hr.mem
  have h1 := Jj hr hc
  have fin := eD (R := R) (r := r.B1 c) hf h1 hn w7 (fun G5 Y5 B9 W8 R9 Q5 H5 => k (r.B1 c).ep (r.B1 c).mem (r.B1 c).join (r.B1 c).row G5 Y5 (r.B1 c).told B9 W8 R9 Q5 H5)
  refine Eq.trans ?_ (fin.trans ?_)
  · unfold Hn
    by_cases OO : r.ep < (cell 0 c).toInt
    · rw [N2 OO, cond_true]
      rw [RX]
      unfold eW
      have e1 : (cell 1 [D.int (cell 0 c).toInt, D.row (cell 1 c).C0, D.bool (cell 2 c).toBool]).C0 = (cell 1 c).C0 := rfl
      have e0 : (cell 0 [D.int (cell 0 c).toInt, D.row (cell 1 c).C0, D.bool (cell 2 c).toBool]).toInt = (cell 0 c).toInt := rfl
      have e2 : (cell 2 [D.int (cell 0 c).toInt, D.row (cell 1 c).C0, D.bool (cell 2 c).toBool]).toBool = (cell 2 c).toBool := rfl
      simp only [e0, e1, e2]
      rw [Q4 (by omega) (by omega), cond_true]
      refine (Wk (R := R) (r := { r with ep := (cell 0 c).toInt, mem := (cell 1 c).C0, join := (cell 2 c).toBool }) hf (by simp only; omega) _).trans ?_
      unfold L1.B1
      rw [if_pos OO]
      cases Ac : ({ r with ep := (cell 0 c).toInt, mem := (cell 1 c).C0, join := (cell 2 c).toBool } : L1).last with
      | true =>
        cases hj : (cell 2 c).toBool with
        | true => rfl
        | false => rfl
      | false =>
        cases hj : (cell 2 c).toBool with
        | true => rfl
        | false => rfl
    · rw [W1 OO, cond_false]
      unfold L1.B1
      rw [if_neg OO]
      cases hj : r.join with
      | true => cases (cell 2 c).toBool <;> rfl
      | false => rfl
  · split <;> rfl
theorem eB (hf : 1001 <= fu) (hr : r.Ok n) (hn : n <= 100000) (c : List D) (hc : (cell 1 c).C0.length <= 100) (k : Int -> List (List D) -> Bool -> List (List D) -> Bool -> Int -> Int -> Int -> Int -> Bool -> Int -> List (List D) -> Option R) :
    F32 fu c r.id r.ep r.mem r.join r.row r.live r.E0 r.told r.P0 r.base r.heard r.need k
      = k (r.J3 c).1.ep (r.J3 c).1.mem (r.J3 c).1.join (r.J3 c).1.row (r.J3 c).1.live (r.J3 c).1.E0 (r.J3 c).1.told (r.J3 c).1.P0 (r.J3 c).1.base (r.J3 c).1.heard (r.J3 c).1.need (r.J3 c).2 := by
  rw [fE]
  unfold nj L1.J3
  by_cases h : (cell 0 c).toInt < r.ep
  · rw [N2 h, cond_true, if_pos h]
  · rw [W1 h, cond_false, if_neg h]
    have key : ∀ w7, w7 = (r.live && decide ((cell 0 c).toInt = r.ep)) -> Hn fu w7 r.id r.ep r.mem r.join r.row r.live r.E0 r.told r.P0 r.base r.heard r.need (cell 0 c).toInt (cell 1 c).C0 (cell 2 c).toBool k = _ := fun w7 hw => by
      subst hw
      exact eE hf hr hn _ c hc k
    have same : ∀ (q : L1) (w : Bool), (q.F1.S2.V2 w).ep = q.ep /\ (q.F1.S2.V2 w).mem = q.mem /\ (q.F1.S2.V2 w).join = q.join /\ (q.F1.S2.V2 w).row = q.row /\ (q.F1.S2.V2 w).live = q.F1.live /\ (q.F1.S2.V2 w).told = q.told := fun q w => by
      unfold L1.V2 L1.S2
      split <;> split <;> exact ⟨rfl, rfl, rfl, rfl, rfl, rfl⟩
    have fin : (if (r.B1 c).F1.live then k (r.B1 c).ep (r.B1 c).mem (r.B1 c).join (r.B1 c).row true ((r.B1 c).F1.S2.V2 (r.live && decide ((cell 0 c).toInt = r.ep))).E0 (r.B1 c).told ((r.B1 c).F1.S2.V2 (r.live && decide ((cell 0 c).toInt = r.ep))).P0 ((r.B1 c).F1.S2.V2 (r.live && decide ((cell 0 c).toInt = r.ep))).base ((r.B1 c).F1.S2.V2 (r.live && decide ((cell 0 c).toInt = r.ep))).heard ((r.B1 c).F1.S2.V2 (r.live && decide ((cell 0 c).toInt = r.ep))).need ((r.B1 c).F1.S2.V2 (r.live && decide ((cell 0 c).toInt = r.ep))).again
        else k (r.B1 c).ep (r.B1 c).mem (r.B1 c).join (r.B1 c).row false (r.B1 c).E0 (r.B1 c).told (r.B1 c).P0 (r.B1 c).base (r.B1 c).heard (r.B1 c).need []) =
        (fun (p : L1 × List (List D)) => k p.1.ep p.1.mem p.1.join p.1.row p.1.live p.1.E0 p.1.told p.1.P0 p.1.base p.1.heard p.1.need p.2) (if (r.B1 c).F1.live then (((r.B1 c).F1.S2.V2 (r.live && decide ((cell 0 c).toInt = r.ep))), ((r.B1 c).F1.S2.V2 (r.live && decide ((cell 0 c).toInt = r.ep))).again) else ((r.B1 c).F1, [])) := by
      obtain ⟨a1, a2, a3, a4, a5, a6⟩ := same (r.B1 c) (r.live && decide ((cell 0 c).toInt = r.ep))
      by_cases hl : (r.B1 c).F1.live = true
      · rw [if_pos hl, if_pos hl]
        simp only [a1, a2, a3, a4, a5, a6, hl]
      · have Iu : (r.B1 c).F1.live = false := by simpa using hl
        rw [if_neg hl, if_neg hl]
        show _ = k (r.B1 c).F1.ep (r.B1 c).F1.mem (r.B1 c).F1.join (r.B1 c).F1.row (r.B1 c).F1.live (r.B1 c).F1.E0 (r.B1 c).F1.told (r.B1 c).F1.P0 (r.B1 c).F1.base (r.B1 c).F1.heard (r.B1 c).F1.need []
        rw [Iu]; rfl
    refine Eq.trans ?_ fin
    cases hl : r.live with
    | true =>
      rw [cond_true]
      have := key (decide ((cell 0 c).toInt = r.ep)) (by rw [hl]; rfl)
      rw [hl] at this
      exact this
    | false =>
      rw [cond_false]
      have := key false (by rw [hl]; rfl)
      rw [hl] at this
      exact this
theorem eC (hr : r.Ok n) {c : List D} (hc : (cell 1 c).C0.length <= 100) : (r.J3 c).1.Ok n := by
  unfold L1.J3
  split
  · exact hr
  · split
    · exact ZO (ZP (Ji (Jj hr hc))) _
    · exact Ji (Jj hr hc)
theorem Pm (r : L1) (c : List D) : (r.J3 c).2.length <= 9 := by
  unfold L1.J3
  split
  · simp
  · split
    · exact GW _
    · simp
end
end Go.Proofs.Ythlbahcggmbfaaa.V
namespace Go.Proofs.Ythlbahcggmbfaaa.V
variable {R : Type}
structure Cf where
 e : Int
 m : List (List D)
 j : Bool
def Cf.d (c : Cf) : List D := [D.int c.e, D.row c.m, D.bool c.j]
def Cf.X5 (c : Cf) : List (D × List D) := [(D.int 0, c.d)]
theorem rk (c : Cf) : (cell 0 c.d).toInt = c.e := of_eq_true (eq_self _)
theorem pC (c : Cf) : (cell 1 c.d).C0 = c.m := of_eq_true (eq_self _)
theorem sm (c : Cf) : (cell 2 c.d).toBool = c.j := of_eq_true (eq_self _)
theorem XD (c : Cf) (z : List D) : W3 c.X5 (D.int 0) z = c.d := of_eq_true (eq_self _)
theorem XA (c : Cf) : JN c.X5 (D.int 0) = true := of_eq_true (eq_self _)
theorem gW (c : Cf) (v : List D) : CQ c.X5 (D.int 0) v = [(D.int 0, v)] := of_eq_true (eq_self _)
theorem vX (kd sh ep nd : Int) (mb : List (List D)) : (cell 0 [D.int kd, D.int sh, D.int ep, D.int nd, D.row mb]).toInt = kd := of_eq_true (eq_self _)
theorem vW (kd sh ep nd : Int) (mb : List (List D)) : (cell 1 [D.int kd, D.int sh, D.int ep, D.int nd, D.row mb]).toInt = sh := of_eq_true (eq_self _)
theorem vV (kd sh ep nd : Int) (mb : List (List D)) : (cell 2 [D.int kd, D.int sh, D.int ep, D.int nd, D.row mb]).toInt = ep := of_eq_true (eq_self _)
theorem vU (kd sh ep nd : Int) (mb : List (List D)) : (cell 3 [D.int kd, D.int sh, D.int ep, D.int nd, D.row mb]).toInt = nd := of_eq_true (eq_self _)
def Cf.drop (c : Cf) (nd : Int) : Int × Cf :=
 if n7 c.m nd < 0 then (6, c)
 else if (c.j && decide (n7 c.m nd = (c.m.length : Int) - 1)) = false /\ (if c.j then (c.m.length : Int) - 1 else c.m.length) < 2 then (9, c)
 else (0, ⟨IntKind.i64.wrap (c.e + 1), v7 c.m (n7 c.m nd).toNat ((n7 c.m nd).toNat + 1), c.j && !decide (n7 c.m nd = (c.m.length : Int) - 1)⟩)
def Cf.join (c : Cf) (nd : Int) : Int × Cf :=
 if ¬ (0 <= nd /\ nd < 100) then (1, c)
 else if 0 <= n7 c.m nd then (7, c)
 else if c.j = true then (9, c)
 else if 7 <= c.m.length then (9, c)
 else (0, ⟨IntKind.i64.wrap (c.e + 1), c.m ++ [[D.int nd]], true⟩)
def Cf.full (c : Cf) (nd : Int) : Int × Cf :=
 if c.j = false then (9, c)
 else if ¬ n7 c.m nd = (c.m.length : Int) - 1 then (9, c)
 else (0, ⟨c.e, c.m, false⟩)
def Cf.order (c : Cf) (kd ep nd : Int) : Int × Cf :=
 if kd = 1 \/ kd = 2 \/ kd = 3 then
  if ¬ c.e = ep then (11, c)
  else if kd = 1 then c.drop nd
  else if kd = 2 then c.join nd
  else c.full nd
 else (if kd = 0 then 7 else 1, c)
theorem Wf (fu : Nat) (n : Int) (k : Bool -> Option R) : F59 fu n k = k (decide (0 <= n /\ n < 100)) := by
 rw [eZ]
 unfold nQ
 by_cases h : 0 <= n
 ·rw [le_true h, cond_true]
  by_cases h2 : n < 100
  ·rw [N2 h2, decide_eq_true ⟨h, h2⟩]
  ·rw [W1 h2, decide_eq_false (fun q => h2 q.2)]
 ·rw [u5 h, cond_false, decide_eq_false (fun q => h q.1)]
theorem dF {m : List (List D)} {k : Int} (h0 : 0 <= k) (h1 : k < m.length) (hm : m.length <= 1000) : Fp m k (IntKind.i64.wrap (k + 1)) = true /\ (IntKind.i64.wrap (k + 1)).toNat = k.toNat + 1 := by
 rw [j5 (x := k + 1) (by omega) (by omega)]
 refine ⟨?_, by omega⟩
 unfold Fp H9
 rw [Bool.and_eq_true]
 exact ⟨decide_eq_true ⟨h0, by omega⟩, decide_eq_true ⟨by omega, by omega⟩⟩
theorem Nk {k0 : Int -> List (D × List D) -> Option R} {c : Cf} {nd : Int} (hm : c.m.length <= 100) (hk : ¬ n7 c.m nd < 0) (jn : Bool) (jy : jn = (c.j && !decide (n7 c.m nd = (c.m.length : Int) - 1))) :
  (bif Fp c.m (n7 c.m nd) (IntKind.i64.wrap (n7 c.m nd + 1)) then k0 0 [(D.int 0, [D.int (IntKind.i64.wrap (c.e + 1)), D.row (v7 c.m (n7 c.m nd).toNat (IntKind.i64.wrap (n7 c.m nd + 1)).toNat), D.bool jn])] else none)
   = k0 0 (⟨IntKind.i64.wrap (c.e + 1), v7 c.m (n7 c.m nd).toNat ((n7 c.m nd).toNat + 1), c.j && !decide (n7 c.m nd = (c.m.length : Int) - 1)⟩ : Cf).X5 := by
 obtain ⟨r1, r2⟩ := Jh c.m nd
 obtain ⟨d1, d2⟩ := dF (m := c.m) (k := n7 c.m nd) (by omega) r2 (by omega)
 rw [d1, d2, cond_true, jy]; rfl
theorem ri (fu : Nat) (hf : 1001 <= fu) (c : Cf) (hm : c.m.length <= 100) (kd ep nd : Int) (k0 : Int -> List (D × List D) -> Option R) :
  Ra fu [D.int kd, D.int 0, D.int ep, D.int nd, D.row []] c.X5 k0 = k0 (c.order kd ep nd).1 (c.order kd ep nd).2.X5 := by
 rw [RZ]
 unfold Xd
 have Ad : ∀ (k : Int -> Option R), F22 fu [D.int c.e, D.row c.m, D.bool c.j] nd k = k (n7 c.m nd) := fun k => Tq fu [D.int c.e, D.row c.m, D.bool c.j] nd (by show c.m.length <= 1000; omega) hf k
 obtain ⟨r1, r2⟩ := Jh c.m nd
 have hw : IntKind.i64.wrap (S1 c.m.length - 1) = (c.m.length : Int) - 1 := by unfold S1; exact j5 (by omega) (by omega)
 simp only [vX, vW, vV, vU, XD, XA, gW, rk, pC, sm, Ad, hw, Wf, Bool.not_true, cond_false]
 unfold Cf.order
 by_cases h1 : kd < 0
 ·rw [N2 h1, cond_true, if_neg (by omega), if_neg (by omega)]
 ·rw [W1 h1, cond_false]
  by_cases h2 : 3 < kd
  ·rw [N2 h2, cond_true, if_neg (by omega), if_neg (by omega)]
  ·rw [W1 h2, cond_false, W1 (show ¬ (0 : Int) < 0 by omega), cond_false, u5 (show ¬ (10 : Int) <= 0 by omega), cond_false]
   by_cases h3 : kd = 0
   ·rw [eq_true h3, cond_true, cond_true, if_neg (by omega), if_pos h3]
   ·rw [eq_false h3, cond_false, Q4 (by omega) (by omega), cond_true, if_pos (by omega)]
    by_cases he : c.e = ep
    ·rw [eq_true he]
     simp only [Bool.not_true, cond_false]
     rw [if_neg (fun h => h he)]
     by_cases k1 : kd = 1
     ·rw [eq_true k1, cond_true, if_pos k1]
      unfold Cf.drop
      by_cases hk : n7 c.m nd < 0
      ·rw [N2 hk, cond_true, if_pos hk]
      ·rw [W1 hk, cond_false, if_neg hk]
       cases hj : c.j with
       | true =>
        simp only [cond_true, cond_false, Bool.true_and]
        by_cases hl : n7 c.m nd = (c.m.length : Int) - 1
        ·rw [eq_true hl]
         simp only [Bool.not_true, cond_false]
         rw [if_neg (fun h => by cases h.1)]
         have := Nk (R := R) (k0 := k0) (c := c) (nd := nd) hm hk false (by rw [hj, eq_true hl]; rfl)
         rw [hj, eq_true hl] at this
         exact this
        ·rw [eq_false hl]
         simp only [Bool.not_false, cond_true]
         by_cases h2 : (c.m.length : Int) - 1 < 2
         ·rw [N2 h2, cond_true, if_pos (by exact ⟨by trivial, h2⟩)]
         ·rw [W1 h2, cond_false, if_neg (fun h => h2 h.2)]
          have := Nk (R := R) (k0 := k0) (c := c) (nd := nd) hm hk true (by rw [hj, eq_false hl]; rfl)
          rw [hj, eq_false hl] at this
          exact this
       | false =>
        simp only [cond_true, cond_false, Bool.false_and]
        have hd := Nk (R := R) (k0 := k0) (c := c) (nd := nd) hm hk false (by rw [hj]; rfl)
        rw [hj] at hd
        have hd : _ = k0 0 (⟨IntKind.i64.wrap (c.e + 1), v7 c.m (n7 c.m nd).toNat ((n7 c.m nd).toNat + 1), false⟩ : Cf).X5 := hd
        by_cases h2 : (c.m.length : Int) < 2
        ·rw [N2 (show S1 c.m.length < 2 from h2), cond_true, if_pos (by exact ⟨by trivial, h2⟩)]
        ·rw [W1 (show ¬ S1 c.m.length < 2 from h2), cond_false, if_neg (fun h => h2 h.2)]
         exact hd
     ·rw [eq_false k1, cond_false, if_neg k1]
      by_cases k2 : kd = 2
      ·rw [eq_true k2, cond_true, if_pos k2]
       unfold Cf.join
       by_cases hn : 0 <= nd /\ nd < 100
       ·rw [decide_eq_true hn, if_neg (fun h => h hn)]
        simp only [Bool.not_true, cond_false]
        by_cases hk : 0 <= n7 c.m nd
        ·rw [le_true hk, cond_true, if_pos hk]
        ·rw [u5 hk, cond_false, if_neg hk]
         cases hj : c.j with
         | true => rfl
         | false =>
          rw [cond_false, if_neg (by simp)]
          by_cases h7 : 7 <= c.m.length
          ·rw [le_true (show (7 : Int) <= S1 c.m.length by unfold S1; omega), cond_true, if_pos h7]
          ·rw [u5 (show ¬ (7 : Int) <= S1 c.m.length by unfold S1; omega), cond_false, if_neg h7, Q4 (by omega) (by omega), cond_true]; rfl
       ·rw [decide_eq_false hn, if_pos hn]
        simp only [Bool.not_false, cond_true]
      ·rw [eq_false k2, cond_false, if_neg k2]
       unfold Cf.full
       cases hj : c.j with
       | false => rfl
       | true =>
        simp only [Bool.not_true, cond_false]
        rw [if_neg (by simp)]
        by_cases hl : n7 c.m nd = (c.m.length : Int) - 1
        ·rw [eq_true hl, if_neg (fun h => h hl)]; rfl
        ·rw [eq_false hl, if_pos hl]; rfl
    ·rw [eq_false he, if_pos he]; rfl
theorem Wc {c : Cf} (hm : c.m.length <= 100) (kd ep nd : Int) : (c.order kd ep nd).2.m.length <= 100 := by
 unfold Cf.order
 split
 ·split
  ·exact hm
  ·split
   ·unfold Cf.drop
    by_cases h1 : n7 c.m nd < 0
    ·rw [if_pos h1]; exact hm
    ·rw [if_neg h1]
     by_cases h2 : (c.j && decide (n7 c.m nd = (c.m.length : Int) - 1)) = false /\ (if c.j then (c.m.length : Int) - 1 else c.m.length) < 2
     ·rw [if_pos h2]; exact hm
     ·rw [if_neg h2]
      show (v7 c.m _ _).length <= 100
      unfold v7; simp; omega
   ·split
    ·unfold Cf.join
     repeat' split
     all_goals first | exact hm | (show (c.m ++ [[D.int nd]]).length <= 100; simp; omega)
    ·unfold Cf.full
     repeat' split
     all_goals exact hm
 ·exact hm
end Go.Proofs.Ythlbahcggmbfaaa.V
namespace Go.Proofs.Ythlbahcggmbfaaa.V
variable {R : Type}
def S0 (rs : List L1) : List (List D) := rs.map L1.cells
theorem G6 (rs : List L1) : (S0 rs).length = rs.length := by simp [S0]
theorem EU {rs : List L1} {i : Nat} (h : i < rs.length) : elem i (S0 rs) = (rs[i]).cells := by
 unfold elem S0
 rw [List.getD_eq_getElem?_getD, List.getElem?_map, List.getElem?_eq_getElem h]; rfl
theorem DW (rs : List L1) (i : Nat) (r : L1) : setAt (S0 rs) i r.cells = S0 (rs.set i r) := by
 show (rs.map L1.cells).set i r.cells = (rs.set i r).map L1.cells
 rw [List.map_set]
theorem Mo {rs : List L1} {i : Nat} (h : i < rs.length) : setAt (S0 rs) i (rs[i]).cells = S0 rs := by
 rw [DW, List.set_getElem_self]
theorem c0 (r : L1) : (cell 0 r.cells).toInt = r.id := of_eq_true (eq_self _)
theorem c1 (r : L1) : (cell 1 r.cells).toInt = r.ep := of_eq_true (eq_self _)
theorem c2 (r : L1) : (cell 2 r.cells).C0 = r.mem := of_eq_true (eq_self _)
theorem c3 (r : L1) : (cell 3 r.cells).toBool = r.join := of_eq_true (eq_self _)
theorem c4 (r : L1) : (cell 4 r.cells).C0 = r.row := of_eq_true (eq_self _)
theorem c5 (r : L1) : (cell 5 r.cells).toBool = r.live := of_eq_true (eq_self _)
theorem c6 (r : L1) : (cell 6 r.cells).toInt = r.E0 := of_eq_true (eq_self _)
theorem c7 (r : L1) : (cell 7 r.cells).toInt = r.told := of_eq_true (eq_self _)
theorem c8 (r : L1) : (cell 8 r.cells).toInt = r.P0 := of_eq_true (eq_self _)
theorem c9 (r : L1) : (cell 9 r.cells).toInt = r.base := of_eq_true (eq_self _)
theorem c10 (r : L1) : (cell 10 r.cells).toBool = r.heard := of_eq_true (eq_self _)
theorem c11 (r : L1) : (cell 11 r.cells).toInt = r.need := of_eq_true (eq_self _)
theorem Mt {fu : Nat} (r : L1) (h : r.row.length <= 1000000) (k : Option R) : F16 fu r.id r.ep r.mem r.join r.row r.live r.E0 r.told r.P0 r.base r.heard r.need k = k := by
 rw [fU]; unfold oD; rw [Q4 h (by omega), cond_true]
theorem Jd {fu : Nat} (r : L1) (k : Option R) : F17 fu r.id r.ep r.mem r.join r.row r.live r.E0 r.told r.P0 r.base r.heard r.need k = k := by
 rw [fT]; rfl
def AP (row w : List (List D)) : Bool := decide (w.length <= row.length) && (List.range w.length).all fun i => Bi (cell 0 (elem i row)).toStr (cell 0 (elem i w)).toStr
theorem Tj (fu : Nat) (row w : List (List D)) (hl : w.length <= row.length) (hw : w.length <= 100000) (k0 k1 : Option R) : ∀ (n i : Nat), w.length + 1 <= i + n -> i <= w.length ->
  Jo fu row w (S1 w.length) n (i : Int) k0 k1 = if ((List.range w.length).drop i).all (fun i => Bi (cell 0 (elem i row)).toStr (cell 0 (elem i w)).toStr) then k1 else k0 := by
 intro n
 induction n with
 | zero => intro i h1 h2; omega
 | succ n ih =>
  intro i h1 h2
  unfold Jo
  by_cases hi : i < w.length
  ·rw [N2 (show (i : Int) < S1 w.length by unfold S1; omega), cond_true, D4 hi, cond_true, D4 (by omega), cond_true, Int.toNat_natCast]
   have hd : (List.range w.length).drop i = i :: (List.range w.length).drop (i + 1) := by
    rw [List.drop_eq_getElem_cons (by simpa using hi)]; simp
   rw [hd, List.all_cons]
   cases hs : Bi (cell 0 (elem i row)).toStr (cell 0 (elem i w)).toStr with
   | true =>
    simp only [Bool.not_true, cond_false, Bool.true_and]
    rw [W5 (by omega)]
    exact ih (i + 1) (by omega) (by omega)
   | false =>
    simp only [Bool.not_false, cond_true, Bool.false_and, Bool.false_eq_true, if_false]
  ·rw [W1 (show ¬ (i : Int) < S1 w.length by unfold S1; omega), cond_false, List.drop_eq_nil_of_le (by simpa using hi)]
   simp
theorem GU {fu : Nat} (row w : List (List D)) (hw : w.length <= 1000) (hf : 1001 <= fu) (k : Bool -> Option R) : F18 fu row w k = k (AP row w) := by
 rw [fS]
 unfold oC AP
 by_cases h : row.length < w.length
 ·rw [N2 (show S1 row.length < S1 w.length by unfold S1; omega), cond_true, decide_eq_false (by omega), Bool.false_and]
 ·rw [W1 (show ¬ S1 row.length < S1 w.length by unfold S1; omega), cond_false, decide_eq_true (by omega), Bool.true_and]
  have := Tj fu row w (by omega) (by omega) (k false) (k true) fu 0 (by omega) (by omega)
  refine this.trans ?_
  rw [List.drop_zero]
  cases (List.range w.length).all (fun i => Bi (cell 0 (elem i row)).toStr (cell 0 (elem i w)).toStr) <;> rfl
def BZ (rs : List L1) (n : Nat) : Prop := ∀ r ∈ rs, r.Ok n
def Kw : List L1 -> List (List D) -> Bool -> Option (List (List D)) × List (List D) × Bool
 | [], G1, bad => (none, G1, bad)
 | r :: rs, G1, bad =>
  if r.E0 < 0 \/ (r.row.length : Int) < r.E0 then (some G1, G1, bad)
  else Kw rs (if G1.length < (part r.row 0 r.E0.toNat).length then part r.row 0 r.E0.toNat else G1) (bad || !AP (part r.row 0 r.E0.toNat) G1 && !AP G1 (part r.row 0 r.E0.toNat))
theorem ax {fu n0 : Nat} (hf : 1001 <= fu) (hn : n0 <= 1000) (rs : List L1) (hr : BZ rs n0) (hlen : rs.length <= 100) (k0 : List (List D) -> List (List D) -> Option R) (k1 : List (List D) -> Bool -> List (List D) -> Option R) : ∀ (n i : Nat) (G1 : List (List D)) (bad : Bool), rs.length + 1 <= i + n -> i <= rs.length -> G1.length <= n0 ->
  BB fu (S1 rs.length) n (i : Int) G1 bad (S0 rs) k0 k1 = match Kw (rs.drop i) G1 bad with | (some b, _, _) => k0 b (S0 rs) | (none, b, w) => k1 b w (S0 rs) := by
 intro n
 induction n with
 | zero => intro i G1 bad h1 h2; omega
 | succ n ih =>
  intro i G1 bad h1 h2 hb
  unfold BB
  by_cases hi : i < rs.length
  ·rw [N2 (show (i : Int) < S1 rs.length by unfold S1; omega), cond_true, D4 (by rw [G6]; exact hi), cond_true, Int.toNat_natCast]
   have hk := hr _ (List.getElem_mem hi)
   have F4 := hk.row
   have hc := hk.E0
   have tj : setAt (S0 rs) i [D.int rs[i].id, D.int rs[i].ep, D.row rs[i].mem, D.bool rs[i].join, D.row rs[i].row, D.bool rs[i].live, D.int rs[i].E0, D.int rs[i].told, D.int rs[i].P0, D.int rs[i].base, D.bool rs[i].heard, D.int rs[i].need] = S0 rs := Mo hi
   unfold R7
   simp only [EU hi, c0, c1, c2, c3, c4, c5, c6, c7, c8, c9, c10, c11, Mt rs[i] (show rs[i].row.length <= 1000000 by omega)]
   unfold S7
   simp only [tj, EU hi, c0, c1, c2, c3, c4, c5, c6, c7, c8, c9, c10, c11, Jd]
   rw [List.drop_eq_getElem_cons hi]
   unfold Kw
   by_cases Yt : rs[i].E0 < 0
   ·rw [N2 Yt, cond_true, if_pos (.inl Yt)]
   ·rw [W1 Yt, cond_false]
    by_cases Qz : (rs[i].row.length : Int) < rs[i].E0
    ·rw [N2 (show S1 rs[i].row.length < rs[i].E0 from Qz), cond_true, if_pos (.inr Qz)]
    ·rw [W1 (show ¬ S1 rs[i].row.length < rs[i].E0 from Qz), cond_false, if_neg (by omega)]
     have hu : (decide ((0 : Int) <= 0 /\ 0 <= rs[i].E0) && H9 rs[i].E0 rs[i].row.length) = true := by
      unfold H9
      rw [Bool.and_eq_true]
      exact ⟨decide_eq_true ⟨Int.le_refl _, by omega⟩, decide_eq_true ⟨by omega, by omega⟩⟩
     rw [hu, cond_true]
     have hp : (part rs[i].row 0 rs[i].E0.toNat).length <= n0 := by unfold part; simp; omega
     generalize part rs[i].row 0 rs[i].E0.toNat = done at hp ⊢
     have next : ∀ (Gk : Bool), (bif decide (S1 G1.length < S1 done.length) then BB fu (S1 rs.length) n (IntKind.i64.wrap ((i : Int) + 1)) done Gk (S0 rs) k0 k1 else BB fu (S1 rs.length) n (IntKind.i64.wrap ((i : Int) + 1)) G1 Gk (S0 rs) k0 k1)
       = match Kw (rs.drop (i + 1)) (if G1.length < done.length then done else G1) Gk with | (some b, _, _) => k0 b (S0 rs) | (none, b, w) => k1 b w (S0 rs) := by
      intro Gk
      rw [W5 (by omega)]
      by_cases R3 : G1.length < done.length
      ·rw [N2 (show S1 G1.length < S1 done.length by unfold S1; omega), cond_true, if_pos R3]
       exact ih (i + 1) done Gk (by omega) (by omega) hp
      ·rw [W1 (show ¬ S1 G1.length < S1 done.length by unfold S1; omega), cond_false, if_neg R3]
       exact ih (i + 1) G1 Gk (by omega) (by omega) hb
     cases bad with
     | true => simp only [cond_true, Bool.true_or]; exact next true
     | false =>
      simp only [cond_false, Bool.false_or]
      rw [GU done G1 (by omega) hf]
      cases hx : AP done G1 with
      | true => simp only [Bool.not_true, cond_false, Bool.false_and]; exact next false
      | false =>
       simp only [Bool.not_false, cond_true, Bool.true_and]
       rw [GU G1 done (by omega) hf]
       exact next _
  ·rw [W1 (show ¬ (i : Int) < S1 rs.length by unfold S1; omega), cond_false, List.drop_eq_nil_of_le (by omega)]
   rfl
end Go.Proofs.Ythlbahcggmbfaaa.V
namespace Go.Proofs.Ythlbahcggmbfaaa.V
variable {R : Type}
def NL (rs : List L1) (G1 : List (List D)) (id : Int) : Bool := decide (id < 0) || (decide (5 <= id) || !AP ((rs[id.toNat]?.map L1.row).getD []) G1)
def Fs (rs : List L1) (G1 m : List (List D)) (j : Bool) : List (List D) -> Nat -> Bool -> Bool
 | [], _, bad => bad
 | x :: xs, i, bad => Fs rs G1 m j xs (i + 1) (if j = true /\ (i : Int) = (m.length : Int) - 1 then bad else bad || NL rs G1 (cell 0 x).toInt)
theorem bf {fu n0 : Nat} (hf : 1001 <= fu) (hn : n0 <= 1000) (rs : List L1) (hr : BZ rs n0) (h5 : rs.length = 5) (G1 : List (List D)) (hb : G1.length <= n0) (m : List (List D)) (hm : m.length <= 100) (j : Bool) (k0 : Bool -> List (List D) -> Option R) :
  ∀ (n i : Nat) (bad : Bool), m.length + 1 <= i + n -> i <= m.length ->
  P7 fu m (S1 m.length) G1 m j n (i : Int) bad (S0 rs) k0 = k0 (Fs rs G1 m j (m.drop i) i bad) (S0 rs) := by
 intro n
 induction n with
 | zero => intro i bad h1 h2; omega
 | succ n ih =>
  intro i bad h1 h2
  unfold P7
  by_cases hi : i < m.length
  ·rw [N2 (show (i : Int) < S1 m.length by unfold S1; omega), cond_true, D4 hi, cond_true, Int.toNat_natCast]
   have he : elem i m = m[i] := by unfold elem; rw [List.getD_eq_getElem?_getD, List.getElem?_eq_getElem hi]; rfl
   rw [he, List.drop_eq_getElem_cons hi]
   unfold Fs
   have hw : IntKind.i64.wrap (S1 m.length - 1) = (m.length : Int) - 1 := by unfold S1; exact j5 (by omega) (by omega)
   rw [hw]
   have nx : ∀ Gk, P7 fu m (S1 m.length) G1 m j n (IntKind.i64.wrap ((i : Int) + 1)) Gk (S0 rs) k0 = k0 (Fs rs G1 m j (m.drop (i + 1)) (i + 1) Gk) (S0 rs) := fun Gk => by
    rw [W5 (by omega)]; exact ih (i + 1) Gk (by omega) (by omega)
   have arm : ∀ Gk, (bif Gk then P7 fu m (S1 m.length) G1 m j n (IntKind.i64.wrap ((i : Int) + 1)) true (S0 rs) k0 else bif decide ((cell 0 m[i]).toInt < 0) then P7 fu m (S1 m.length) G1 m j n (IntKind.i64.wrap ((i : Int) + 1)) true (S0 rs) k0 else bif decide (5 <= (cell 0 m[i]).toInt) then P7 fu m (S1 m.length) G1 m j n (IntKind.i64.wrap ((i : Int) + 1)) true (S0 rs) k0 else bif within (cell 0 m[i]).toInt (S0 rs).length then R7 (elem (cell 0 m[i]).toInt.toNat (S0 rs)) fun P5 => F16 fu (cell 0 P5).toInt (cell 1 P5).toInt (cell 2 P5).C0 (cell 3 P5).toBool (cell 4 P5).C0 (cell 5 P5).toBool (cell 6 P5).toInt (cell 7 P5).toInt (cell 8 P5).toInt (cell 9 P5).toInt (cell 10 P5).toBool (cell 11 P5).toInt (S7 (setAt (S0 rs) (cell 0 m[i]).toInt.toNat [D.int (cell 0 P5).toInt, D.int (cell 1 P5).toInt, D.row (cell 2 P5).C0, D.bool (cell 3 P5).toBool, D.row (cell 4 P5).C0, D.bool (cell 5 P5).toBool, D.int (cell 6 P5).toInt, D.int (cell 7 P5).toInt, D.int (cell 8 P5).toInt, D.int (cell 9 P5).toInt, D.bool (cell 10 P5).toBool, D.int (cell 11 P5).toInt]) fun Yz => F18 fu (cell 4 P5).C0 G1 fun J2 => (P7 fu m (S1 m.length) G1 m j n (IntKind.i64.wrap ((i : Int) + 1)) (!J2) Yz k0)) else none)
     = k0 (Fs rs G1 m j (m.drop (i + 1)) (i + 1) (Gk || NL rs G1 (cell 0 m[i]).toInt)) (S0 rs) := by
    intro Gk
    cases Gk with
    | true => rw [cond_true, Bool.true_or]; exact nx true
    | false =>
     rw [cond_false, Bool.false_or]
     unfold NL
     by_cases h0 : (cell 0 m[i]).toInt < 0
     ·rw [N2 h0, cond_true, Bool.true_or]; exact nx true
     ·rw [W1 h0, cond_false, Bool.false_or]
      by_cases h6 : 5 <= (cell 0 m[i]).toInt
      ·rw [le_true h6, cond_true, Bool.true_or]; exact nx true
      ·rw [u5 h6, cond_false, Bool.false_or]
       have hk : (cell 0 m[i]).toInt.toNat < rs.length := by omega
       rw [A7 (by omega) (by rw [G6]; omega), cond_true]
       generalize (cell 0 m[i]).toInt.toNat = k at hk ⊢
       have I5 := hr _ (List.getElem_mem hk)
       have F4 := I5.row
       have tj : setAt (S0 rs) k [D.int rs[k].id, D.int rs[k].ep, D.row rs[k].mem, D.bool rs[k].join, D.row rs[k].row, D.bool rs[k].live, D.int rs[k].E0, D.int rs[k].told, D.int rs[k].P0, D.int rs[k].base, D.bool rs[k].heard, D.int rs[k].need] = S0 rs := Mo hk
       unfold R7
       simp only [EU hk, c0, c1, c2, c3, c4, c5, c6, c7, c8, c9, c10, c11, Mt rs[k] (show rs[k].row.length <= 1000000 by omega)]
       unfold S7
       simp only [tj]
       rw [GU rs[k].row G1 (by omega) hf, List.getElem?_eq_getElem hk]
       exact nx _
   cases hj : j with
   | true =>
    rw [cond_true]
    by_cases hl : (i : Int) = (m.length : Int) - 1
    ·rw [eq_true hl, cond_true, if_pos ⟨rfl, hl⟩]
     have := nx bad
     rw [hj] at this
     exact this
    ·rw [eq_false hl, cond_false, if_neg (fun h => hl h.2)]
     have := arm bad
     rw [hj] at this
     exact this
   | false =>
    rw [cond_false, if_neg (fun h => by cases h.1)]
    have := arm bad
    rw [hj] at this
    exact this
  ·rw [W1 (show ¬ (i : Int) < S1 m.length by unfold S1; omega), cond_false, List.drop_eq_nil_of_le (by omega)]
   rfl
def IW (rs : List L1) (G1 : List (List D)) (bad : Bool) (c : Cf) : List (List D) × Bool :=
 match Kw rs G1 bad with
 | (some b, _, _) => (b, true)
 | (none, b, w) => (b, Fs rs b c.m c.j c.m 0 w)
theorem Mq {n0 : Nat} : ∀ (rs : List L1) (G1 : List (List D)) (bad : Bool), BZ rs n0 -> G1.length <= n0 -> (∀ b, (Kw rs G1 bad).1 = some b -> b.length <= n0) /\ (Kw rs G1 bad).2.1.length <= n0
 | [], G1, bad, _, hb => ⟨fun b h => (by cases h), hb⟩
 | r :: rs, G1, bad, hr, hb => by
  have hk := hr r (List.mem_cons_self ..)
  have h1 := hk.row
  unfold Kw
  by_cases hc : r.E0 < 0 \/ (r.row.length : Int) < r.E0
  ·rw [if_pos hc]
   exact ⟨fun b h => (by cases h; exact hb), hb⟩
  ·rw [if_neg hc]
   refine Mq rs _ _ (fun q hq => hr q (List.mem_cons_of_mem _ hq)) ?_
   split
   ·unfold part; simp; omega
   ·exact hb
theorem Pb (fu : Nat) (c : Cf) (hm : c.m.length <= 100) (k : List D -> Bool -> Option R) : F50 fu 0 c.X5 k = k c.d true := by
 rw [eg]
 unfold nU
 simp only [XD, XA, rk, pC, sm]
 rw [eb]
 unfold nR
 have e1 : (cell 1 [D.int c.e, D.row c.m, D.bool c.j]).C0 = c.m := rfl
 rw [e1, Q4 (by omega) (by omega), cond_true]; rfl
theorem look_ok {fu n0 : Nat} (hf : 1001 <= fu) (hn : n0 <= 1000) (rs : List L1) (hr : BZ rs n0) (h5 : rs.length = 5) (c : Cf) (hm : c.m.length <= 100) (G1 : List (List D)) (hb : G1.length <= n0) (all U1 : List (List D)) (next : Int) (bad : Bool) (k : List (List D) -> Bool -> List (List D) -> Option R) :
  F39 fu (S0 rs) all U1 G1 next bad c.X5 k = k (IW rs G1 bad c).1 (IW rs G1 bad c).2 (S0 rs) := by
 rw [fA]
 unfold nc
 rw [show S1 (S0 rs).length = S1 rs.length by rw [G6]]
 have h1 := ax (R := R) hf hn rs hr (by omega) (fun u3 N1 => k u3 true N1) (fun J2 B3 A4 => F50 fu 0 c.X5 fun G5 Y5 => P7 fu (cell 1 G5).C0 (S1 (cell 1 G5).C0.length) J2 (cell 1 G5).C0 (cell 2 G5).toBool fu 0 B3 A4 fun B9 W8 => k J2 B9 W8) fu 0 G1 bad (by omega) (by omega) hb
 refine h1.trans ?_
 rw [List.drop_zero]
 unfold IW
 have hl := Mq rs G1 bad hr hb
 generalize Kw rs G1 bad = q at hl ⊢
 obtain ⟨a, b, w⟩ := q
 cases a with
 | some b => rfl
 | none =>
  simp only
  rw [Pb fu c hm]
  simp only [pC, sm]
  exact bf hf hn rs hr h5 b hl.2 c.m hm c.j (fun B9 W8 => k b B9 W8) fu 0 w (by omega) (by omega)
theorem Ye {n0 : Nat} {rs : List L1} {G1 : List (List D)} {bad : Bool} {c : Cf} (hr : BZ rs n0) (hb : G1.length <= n0) : (IW rs G1 bad c).1.length <= n0 := by
 have hl := Mq rs G1 bad hr hb
 unfold IW
 generalize Kw rs G1 bad = q at hl ⊢
 obtain ⟨a, b, w⟩ := q
 cases a with
 | some b => exact hl.1 b rfl
 | none => exact hl.2
def Cm (l : List (List D)) (i : Nat) : List (List D) := part l 0 i ++ part l (i + 1) l.length
theorem Jp (l : List (List D)) (i : Nat) : (Cm l i).length <= l.length + 0 := by
 unfold Cm part
 simp only [List.length_append, List.length_drop, List.length_take]
 omega
def C8 (m : List D) : Int := (cell 2 m).toInt
def G0 (rs : List L1) (i : Nat) : L1 := rs.getD i ⟨0, 0, [], false, [], false, 0, 0, 0, 0, false, 0⟩
theorem GK {rs : List L1} {i : Nat} (h : i < rs.length) : G0 rs i = rs[i] := by unfold G0; rw [List.getD_eq_getElem?_getD, List.getElem?_eq_getElem h]; rfl
theorem H6 {rs : List L1} {i : Nat} (h : i < rs.length) : elem i (S0 rs) = (G0 rs i).cells := by rw [EU h, GK h]
theorem C9 {rs : List L1} {i : Nat} (h : i < rs.length) : G0 rs i ∈ rs := by rw [GK h]; exact List.getElem_mem h
def F6 (rs : List L1) (m : List D) : List L1 := if 0 <= C8 m /\ C8 m < 5 then rs.set (C8 m).toNat ((G0 rs (C8 m).toNat).L0 m).1 else rs
def AN (rs : List L1) (m : List D) : List (List D) := if 0 <= C8 m /\ C8 m < 5 then ((G0 rs (C8 m).toNat).L0 m).2 else []
def qS (m : List D) : List D := [D.int (cell 0 m).toInt, D.int (cell 1 m).toInt, D.int (cell 2 m).toInt, D.int (cell 3 m).toInt, D.int (cell 4 m).toInt, D.int (cell 5 m).toInt, D.bool (cell 6 m).toBool, D.str (cell 7 m).toStr]
theorem QQ (r : L1) (m : List D) : r.L0 (qS m) = r.L0 m := rfl
theorem Bl (r : L1) (m : List D) : (r.L0 m).1 = { r with row := (r.L0 m).1.row, E0 := (r.L0 m).1.E0, P0 := (r.L0 m).1.P0, heard := (r.L0 m).1.heard, need := (r.L0 m).1.need } := by
 unfold L1.L0
 split
 ·split
  ·unfold L1.N4
   split
   ·simp only; rw [add_same]; rfl
   ·rfl
  ·split
   ·unfold L1.E2; split <;> rfl
   ·rfl
 ·rfl
theorem Pd {fu n0 : Nat} (hf : 1001 <= fu) (hn : n0 <= 1000) (rs : List L1) (hr : BZ rs n0) (h5 : rs.length = 5) (m : List D) (w1 : List (List D)) (hw : w1.length <= 100000) (k : List (List D) -> List (List D) -> Option R) :
  (bif decide (0 <= (cell 2 m).toInt) then bif decide ((cell 2 m).toInt < 5) then bif within (cell 2 m).toInt (S0 rs).length then R7 (elem (cell 2 m).toInt.toNat (S0 rs)) fun P5 => F28 fu (qS m) (cell 0 P5).toInt (cell 1 P5).toInt (cell 2 P5).C0 (cell 3 P5).toBool (cell 4 P5).C0 (cell 5 P5).toBool (cell 6 P5).toInt (cell 7 P5).toInt (cell 8 P5).toInt (cell 9 P5).toInt (cell 10 P5).toBool (cell 11 P5).toInt fun N1 J2 B3 A4 G5 Y5 => S7 (setAt (S0 rs) (cell 2 m).toInt.toNat [D.int (cell 0 P5).toInt, D.int (cell 1 P5).toInt, D.row (cell 2 P5).C0, D.bool (cell 3 P5).toBool, D.row N1, D.bool (cell 5 P5).toBool, D.int J2, D.int (cell 7 P5).toInt, D.int B3, D.int (cell 9 P5).toInt, D.bool A4, D.int G5]) fun dA => bif fits (w1.length + Y5.length) 72 then (k dA (w1 ++ Y5)) else none else none else (k (S0 rs) w1) else (k (S0 rs) w1))
   = k (S0 (F6 rs m)) (w1 ++ AN rs m) := by
 unfold F6 AN
 by_cases h0 : 0 <= (cell 2 m).toInt
 ·rw [le_true h0, cond_true]
  by_cases h1 : (cell 2 m).toInt < 5
  ·have hk : (cell 2 m).toInt.toNat < rs.length := by omega
   rw [N2 h1, cond_true, A7 h0 (by rw [G6]; omega), cond_true, if_pos ⟨h0, h1⟩, if_pos ⟨h0, h1⟩]
   unfold C8
   generalize (cell 2 m).toInt.toNat = k2 at hk ⊢
   have I5 := hr _ (C9 hk)
   unfold R7
   simp only [H6 hk, c0, c1, c2, c3, c4, c5, c6, c7, c8, c9, c10, c11]
   rw [Uu hf I5 (by omega), QQ]
   have hl := KI (G0 rs k2) m
   simp only [S7]
   rw [Q4 (by omega) (by omega), cond_true]
   have hs := Bl (G0 rs k2) m
   have Yi : setAt (S0 rs) k2 [D.int (G0 rs k2).id, D.int (G0 rs k2).ep, D.row (G0 rs k2).mem, D.bool (G0 rs k2).join, D.row ((G0 rs k2).L0 m).1.row, D.bool (G0 rs k2).live, D.int ((G0 rs k2).L0 m).1.E0, D.int (G0 rs k2).told, D.int ((G0 rs k2).L0 m).1.P0, D.int (G0 rs k2).base, D.bool ((G0 rs k2).L0 m).1.heard, D.int ((G0 rs k2).L0 m).1.need] = S0 (rs.set k2 ((G0 rs k2).L0 m).1) := by
    rw [<- DW, hs]; rfl
   rw [Yi]
  ·rw [W1 h1, cond_false, if_neg (fun h => h1 h.2), if_neg (fun h => h1 h.2), List.append_nil]
 ·rw [u5 h0, cond_false, if_neg (fun h => h0 h.1), if_neg (fun h => h0 h.1), List.append_nil]
def Ce (U1 : List (List D)) (i : Nat) (stays : Bool) : List (List D) := if stays then U1 else Cm U1 i
theorem Nq {fu n0 : Nat} (hf : 1001 <= fu) (hn : n0 <= 1000) (rs : List L1) (hr : BZ rs n0) (h5 : rs.length = 5) (all U1 G1 : List (List D)) (next : Int) (bad : Bool) (c : Cf) (hw : U1.length <= 9000) (i : Nat) (hi : i < U1.length) (stays : Bool) (k0 k1 : List (List D) -> List (List D) -> Option R) (k2 : Option R)
  (hk : ∀ a b, k1 a b = k0 a b) (U9 : k2 = k0 (S0 rs) U1) :
  F37 fu (i : Int) stays (S0 rs) all U1 G1 next bad c.X5 k0 k1 k2 = k0 (S0 (F6 rs (elem i U1))) (Ce U1 i stays ++ AN rs (elem i U1)) := by
 rw [fB]
 unfold nf
 rw [D4 hi, cond_true, Int.toNat_natCast]
 cases stays with
 | false =>
  simp only [Bool.not_false, cond_true]
  have h1 : (decide ((0 : Int) <= 0 /\ 0 <= (i : Int)) && H9 (i : Int) U1.length) = true := by
   unfold H9; rw [Bool.and_eq_true]; exact ⟨decide_eq_true ⟨Int.le_refl _, by omega⟩, decide_eq_true ⟨by omega, by omega⟩⟩
  have ei : IntKind.i64.wrap ((i : Int) + 1) = ((i + 1 : Nat) : Int) := W5 (by omega)
  have el : (S1 U1.length).toNat = U1.length := by unfold S1; omega
  have h2 : (decide (0 <= IntKind.i64.wrap ((i : Int) + 1) /\ IntKind.i64.wrap ((i : Int) + 1) <= S1 U1.length) && H9 (S1 U1.length) U1.length) = true := by
   rw [ei]; unfold H9 S1; rw [Bool.and_eq_true]; exact ⟨decide_eq_true ⟨by omega, by omega⟩, decide_eq_true ⟨by omega, by omega⟩⟩
  have jq : (part U1 0 i).length <= U1.length := by unfold part; simp only [List.length_drop, List.length_take]; omega
  have oX : (part U1 (i + 1) U1.length).length <= U1.length := by unfold part; simp only [List.length_drop, List.length_take]; omega
  rw [h1, cond_true, Q4 (by omega) (by omega), cond_true, h2, cond_true, ei, Int.toNat_natCast, el, Q4 (by omega) (by omega), cond_true]
  exact Pd hf hn rs hr h5 (elem i U1) (Cm U1 i) (by unfold Cm; rw [List.length_append]; omega) k0
 | true =>
  simp only [Bool.not_true, cond_false, hk, U9]
  have := Pd (R := R) hf hn rs hr h5 (elem i U1) U1 (by omega) k0
  exact this
end Go.Proofs.Ythlbahcggmbfaaa.V
namespace Go.Proofs.Ythlbahcggmbfaaa.V
variable {R : Type}
theorem Mr (n : Int) : (IL n).size <= 4 := by
 unfold IL Utf8.encode
 simp only
 repeat' split
 all_goals simp [ByteArray.size]
def O6 (k : Int) : ByteArray := IL (IntKind.i32.wrap (IntKind.i64.wrap (97 + k.tmod 26))) ++ IL (IntKind.i32.wrap (IntKind.i64.wrap (97 + (IntKind.i64.wrap (k.tdiv 26)).tmod 26)))
theorem WJ (fu : Nat) (k : Int) (K : ByteArray -> Option R) : F14 fu k K = K (O6 k) := by
 rw [fW]
 unfold oF
 have h1 := Mr (IntKind.i32.wrap (IntKind.i64.wrap (97 + k.tmod 26)))
 have h2 := Mr (IntKind.i32.wrap (IntKind.i64.wrap (97 + (IntKind.i64.wrap (k.tdiv 26)).tmod 26)))
 rw [decide_eq_true (by unfold IntKind.max; simp [IntKind.signed, IntKind.bits]; omega), cond_true]; rfl
theorem We (fu : Nat) (c : Cf) (hm : c.m.length <= 100) (rs all U1 G1 : List (List D)) (next : Int) (bad : Bool) (ha : all.length <= 10000) (k : List (List D) -> Option R) :
  F36 fu rs all U1 G1 next bad c.X5 k = k (all ++ [c.d]) := by
 rw [fC]
 unfold ng
 rw [Pb fu c hm, Q4 (by omega) (by omega), cond_true]; rfl
theorem Uz (fu : Nat) (hf : 1001 <= fu) (c : Cf) (hm : c.m.length <= 100) (kd ep nd : Int) (rs all U1 G1 : List (List D)) (next : Int) (bad : Bool) (ha : all.length <= 10000) (k0 : List (D × List D) -> List (List D) -> Option R) (k1 : List (D × List D) -> Option R) :
  RY fu kd ep nd rs all U1 G1 next bad c.X5 k0 k1 = if (c.order kd ep nd).1 = 0 then k0 (c.order kd ep nd).2.X5 (all ++ [(c.order kd ep nd).2.d]) else k1 (c.order kd ep nd).2.X5 := by
 rw [Xe]
 unfold eX
 rw [ri fu hf c hm]
 by_cases h : (c.order kd ep nd).1 = 0
 ·rw [eq_true h, cond_true, if_pos h, We fu _ (Wc hm kd ep nd) rs all U1 G1 next bad ha]
 ·rw [eq_false h, cond_false, if_neg h]
end Go.Proofs.Ythlbahcggmbfaaa.V
namespace Go.Proofs.Ythlbahcggmbfaaa.V
structure M0 where
 rs : List L1
 all : List (List D)
 U1 : List (List D)
 G1 : List (List D)
 next : Int
 bad : Bool
 c : Cf
structure M0.Inv (w : M0) (n : Nat) : Prop where
 Y7 : w.rs.length = 5
 ok : BZ w.rs n
 some_ : 1 <= w.all.length
 all : w.all.length <= n + 1
 mem : ∀ c ∈ w.all, (cell 1 c).C0.length <= 100
 U1 : w.U1.length <= 10 * n
 G1 : w.G1.length <= n
 X5 : w.c.m.length <= 100
def L1.new (k : Int) (r : L1) : L1 := ⟨k, r.ep, r.mem, r.join, r.row, false, 0, 0, 0, 0, false, 0⟩
def E1 (node : Int) : Nat := if node < 0 then 0 else if 5 <= node then 0 else node.toNat
theorem Ap (node : Int) : E1 node < 5 := by unfold E1; split <;> (try split) <;> omega
def AQ (U1 : List (List D)) (at_ : Int) : Int := if 0 < U1.length then (if 0 <= at_ then at_.tmod (U1.length : Int) else -1) else -1
theorem RQ (U1 : List (List D)) (at_ : Int) : AQ U1 at_ = -1 \/ (0 <= AQ U1 at_ /\ AQ U1 at_ < U1.length) := by
 unfold AQ
 split
 ·split
  ·right
   rename_i h1 h2
   rw [Int.tmod_eq_emod_of_nonneg h2]
   exact ⟨Int.emod_nonneg _ (by omega), Int.emod_lt_of_pos _ (by omega)⟩
  ·exact .inl rfl
 ·exact .inl rfl
def M0.P3 (w : M0) : List D := elem (w.all.length - 1) w.all
def M0.Cd (w : M0) (at_ : Int) : List D := if 0 <= at_ then elem (at_.tmod (w.all.length : Int)).toNat w.all else w.P3
def M0.ordered (w : M0) (kd ep nd : Int) : M0 :=
 if (w.c.order kd ep nd).1 = 0 then { w with c := (w.c.order kd ep nd).2, all := w.all ++ [(w.c.order kd ep nd).2.d] } else { w with c := (w.c.order kd ep nd).2 }
def M0.op (w : M0) (kind node at_ : Int) : M0 :=
 let k := E1 node
 let r := G0 w.rs k
 if kind = 0 then { w with next := IntKind.i64.wrap (w.next + 1), rs := w.rs.set k (r.order (O6 (IntKind.i64.wrap (w.next + 1)))).1, U1 := w.U1 ++ (r.order (O6 (IntKind.i64.wrap (w.next + 1)))).2 }
 else if kind = 1 then { w with U1 := w.U1 ++ r.again }
 else if kind = 2 \/ kind = 3 then
  (if 0 <= AQ w.U1 at_ then { w with rs := F6 w.rs (elem (AQ w.U1 at_).toNat w.U1), U1 := Ce w.U1 (AQ w.U1 at_).toNat (decide (kind = 3) && decide (w.U1.length < 300)) ++ AN w.rs (elem (AQ w.U1 at_).toNat w.U1) } else w)
 else if kind = 4 then (if 0 <= AQ w.U1 at_ then { w with U1 := Cm w.U1 (AQ w.U1 at_).toNat } else w)
 else if kind = 5 then { w with rs := w.rs.set k (r.J3 (w.Cd at_)).1, U1 := w.U1 ++ (r.J3 (w.Cd at_)).2 }
 else if kind = 6 then { w with rs := w.rs.set k (r.new k) }
 else if kind = 7 then w.ordered 1 (cell 0 w.P3).toInt k
 else if kind = 8 then w.ordered 2 (cell 0 w.P3).toInt k
 else if kind = 9 then (if r.complete then w.ordered 3 r.ep k else w)
 else w
def M0.look (w : M0) : M0 := { w with G1 := (IW w.rs w.G1 w.bad w.c).1, bad := (IW w.rs w.G1 w.bad w.c).2 }
def M0.U2 (w : M0) (kind node at_ : Int) : M0 := (w.op kind node at_).look
theorem BZ.mono {rs : List L1} {n m : Nat} (h : BZ rs n) (qq : n <= m) : BZ rs m := fun r hr => (h r hr).mono qq
theorem BZ.set {rs : List L1} {n : Nat} (h : BZ rs n) {i : Nat} {r : L1} (hr : r.Ok n) : BZ (rs.set i r) n := fun q hq => by
 rcases List.mem_or_eq_of_mem_set hq with h1 | rfl
 ·exact h q h1
 ·exact hr
theorem Se {r : L1} {n : Nat} (hr : r.Ok n) (cmd : ByteArray) : (r.order cmd).1.Ok (n + 1) := by
 unfold L1.order
 split
 ·exact eG hr cmd
 ·exact hr.mono (Nat.le_succ n)
theorem PI (r : L1) (cmd : ByteArray) : (r.order cmd).2.length <= 1 := by
 unfold L1.order
 split
 ·exact Li r cmd
 ·simp
theorem ZH {rs : List L1} {n : Nat} (h : BZ rs n) (h5 : rs.length = 5) (m : List D) : BZ (F6 rs m) (n + 1) /\ (F6 rs m).length = 5 /\ (AN rs m).length <= 2 := by
 unfold F6 AN
 by_cases hc : 0 <= C8 m /\ C8 m < 5
 ·rw [if_pos hc, if_pos hc]
  exact ⟨(h.mono (Nat.le_succ n)).set (Uv (h _ (C9 (by omega))) m), by simp [h5], KI _ _⟩
 ·rw [if_neg hc, if_neg hc]
  exact ⟨h.mono (Nat.le_succ n), h5, by simp⟩
theorem M0.FR {w : M0} {n : Nat} (h : w.Inv n) (kd ep nd : Int) : (w.ordered kd ep nd).Inv (n + 1) := by
 have hm := Wc h.X5 kd ep nd
 have ha := h.all
 have hw := h.U1
 have hb := h.G1
 unfold M0.ordered
 split
 ·exact ⟨h.Y7, h.ok.mono (Nat.le_succ n), by simp, by simp; omega, fun c hc => by
   rcases List.mem_append.1 hc with h1 | h1
   ·exact h.mem c h1
   ·rw [List.mem_singleton] at h1; subst h1; exact hm, by show w.U1.length <= _; omega, by show w.G1.length <= _; omega, hm⟩
 ·exact ⟨h.Y7, h.ok.mono (Nat.le_succ n), h.some_, by show w.all.length <= _; omega, h.mem, by show w.U1.length <= _; omega, by show w.G1.length <= _; omega, hm⟩
theorem M0.Inv.mono {w : M0} {n : Nat} (h : w.Inv n) : w.Inv (n + 1) :=
 ⟨h.Y7, h.ok.mono (Nat.le_succ n), h.some_, by have := h.all; omega, h.mem, by have := h.U1; omega, by have := h.G1; omega, h.X5⟩
theorem Tc {w : M0} {n : Nat} (h : w.Inv n) (at_ : Int) : (cell 1 (w.Cd at_)).C0.length <= 100 := by
 have hs := h.some_
 unfold M0.Cd M0.P3
 split
 ·rename_i h0
  rw [Int.tmod_eq_emod_of_nonneg h0]
  have h1 := Int.emod_nonneg at_ (show ((w.all.length : Nat) : Int) ≠ 0 by omega)
  have h2 := Int.emod_lt_of_pos at_ (show (0 : Int) < ((w.all.length : Nat) : Int) by omega)
  exact h.mem _ (Fl (by omega))
 ·exact h.mem _ (Fl (by omega))
theorem M0.VF {w : M0} {n : Nat} (h : w.Inv n) (kind node at_ : Int) : (w.op kind node at_).Inv (n + 1) := by
 have h5 := h.Y7
 have ha := h.all
 have hw := h.U1
 have hb := h.G1
 have hk := Ap node
 have hr := h.ok _ (C9 (i := E1 node) (by omega))
 have up := h.mono
 unfold M0.op
 simp only
 split
 ·have hl := PI (G0 w.rs (E1 node)) (O6 (IntKind.i64.wrap (w.next + 1)))
  exact ⟨by simp [h5], (h.ok.mono (Nat.le_succ n)).set (Se hr _), up.some_, up.all, up.mem, by simp only [List.length_append]; omega, up.G1, up.X5⟩
 ·split
  ·have hl := GW (G0 w.rs (E1 node))
   exact ⟨h5, up.ok, up.some_, up.all, up.mem, by simp only [List.length_append]; omega, up.G1, up.X5⟩
  ·split
   ·split
    ·obtain ⟨q1, q2, q3⟩ := ZH h.ok h5 (elem (AQ w.U1 at_).toNat w.U1)
     have td : (Ce w.U1 (AQ w.U1 at_).toNat (decide (kind = 3) && decide (w.U1.length < 300))).length <= w.U1.length := by
      unfold Ce
      split
      ·exact Nat.le_refl _
      ·exact Jp _ _
     exact ⟨q2, q1, up.some_, up.all, up.mem, by simp only [List.length_append]; omega, up.G1, up.X5⟩
    ·exact up
   ·split
    ·split
     ·have td := Jp w.U1 (AQ w.U1 at_).toNat
      exact ⟨h5, up.ok, up.some_, up.all, up.mem, by simp only; omega, up.G1, up.X5⟩
     ·exact up
    ·split
     ·have hc := Tc h at_
      have hl := Pm (G0 w.rs (E1 node)) (w.Cd at_)
      exact ⟨by simp [h5], up.ok.set ((eC hr hc).mono (Nat.le_succ n)), up.some_, up.all, up.mem, by simp only [List.length_append]; omega, up.G1, up.X5⟩
     ·split
      ·exact ⟨by simp [h5], up.ok.set ⟨hr.mem, by have := hr.row; show (G0 w.rs (E1 node)).row.length <= _; omega, Int.le_refl _, by show (0 : Int) <= _; omega, Int.le_refl _, by show (0 : Int) <= _; omega, Int.le_refl _, by show (0 : Int) <= _; omega⟩, up.some_, up.all, up.mem, up.U1, up.G1, up.X5⟩
      ·split
       ·exact M0.FR h _ _ _
       ·split
        ·exact M0.FR h _ _ _
        ·split
         ·split
          ·exact M0.FR h _ _ _
          ·exact up
         ·exact up
theorem M0.Sn {w : M0} {n : Nat} (h : w.Inv n) : w.look.Inv n :=
 ⟨h.Y7, h.ok, h.some_, h.all, h.mem, h.U1, Ye h.ok h.G1, h.X5⟩
theorem M0.Fo {w : M0} {n : Nat} (h : w.Inv n) (kind node at_ : Int) : (w.U2 kind node at_).Inv (n + 1) := M0.Sn (M0.VF h kind node at_)
variable {R : Type}
theorem iN {fu : Nat} (r : L1) (hm : r.mem.length <= 100) (h : r.row.length <= 1000000) (k : List D -> Option R) : F20 fu r.id r.ep r.mem r.join r.row r.live r.E0 r.told r.P0 r.base r.heard r.need k = k [D.int r.ep, D.row r.mem, D.bool r.join, D.row r.row] := by
 rw [fQ]; unfold oB
 rw [RX]; unfold eW
 show (bif fits r.mem.length 8 then (bif fits r.row.length 16 then k [D.int r.ep, D.row r.mem, D.bool r.join, D.row r.row] else none) else none) = _
 rw [Q4 (by omega) (by omega), cond_true, Q4 h (by omega), cond_true]
theorem TT {fu : Nat} (r : L1) (k : Option R) : F19 fu r.id r.ep r.mem r.join r.row r.live r.E0 r.told r.P0 r.base r.heard r.need k = k := by
 rw [fR]; rfl
theorem ba {fu : Nat} (r : L1) (id : Int) (hm : r.mem.length <= 100) (h : r.row.length <= 1000000) (k : Int -> List (List D) -> Bool -> List (List D) -> Option R) :
  F29 fu id [D.int r.ep, D.row r.mem, D.bool r.join, D.row r.row] k = k r.ep r.mem r.join r.row := by
 rw [fH]; unfold nq
 rw [RX]; unfold eW
 show (bif fits r.mem.length 8 then bif fits r.row.length 16 then _ else none else none) = _
 rw [Q4 (by omega) (by omega), cond_true, Q4 h (by omega), cond_true]; rfl
theorem dy (fu : Nat) (x : Bool) (y2 : List (List D)) (Dc : Int) (hx : x = true -> 0 < y2.length) (k : Int -> Option R) : Gb fu (-1) x y2 Dc k = k (if x then Dc.tmod (y2.length : Int) else -1) := by
 unfold Gb
 cases x with
 | true =>
  have := hx rfl
  rw [cond_true, eq_false (show ¬ S1 y2.length = 0 by unfold S1; omega), cond_false]; rfl
 | false => rfl
theorem OF (r : L1) (c : List D) : (r.J3 c).1 = { (r.J3 c).1 with id := r.id } := by
 have h1 : (r.B1 c).id = r.id := by unfold L1.B1; split <;> (try split) <;> rfl
 have h4 : ∀ (q : L1) (w : Bool), (q.F1.S2.V2 w).id = q.id := fun q w => by unfold L1.V2 L1.S2; split <;> split <;> rfl
 have : (r.J3 c).1.id = r.id := by
  unfold L1.J3
  split
  ·rfl
  ·split
   ·rw [h4, h1]
   ·exact h1
 rw [<- this]
theorem Kq {fu n : Nat} (hf : 1001 <= fu) (hn : n <= 1000) (rs : List L1) (hr : BZ rs n) (k : Nat) (hk : k < rs.length) (U1 : List (List D)) (hw : U1.length <= 20000) (c : List D) (hc : (cell 1 c).C0.length <= 100) (K : List (List D) -> List (List D) -> Option R) :
  Z9 fu k (S0 rs) U1 (cell 0 c).toInt (cell 1 c).C0 (cell 2 c).toBool K = K (S0 (rs.set k ((G0 rs k).J3 c).1)) (U1 ++ ((G0 rs k).J3 c).2) := by
 unfold Z9
 have I5 := hr _ (C9 hk)
 simp only [R7, H6 hk, c0, c1, c2, c3, c4, c5, c6, c7, c8, c9, c10, c11]
 have hl := Pm (G0 rs k) c
 refine (eB (R := R) hf I5 (by omega) [D.int (cell 0 c).toInt, D.row (cell 1 c).C0, D.bool (cell 2 c).toBool] hc _).trans ?_
 have e : (G0 rs k).J3 [D.int (cell 0 c).toInt, D.row (cell 1 c).C0, D.bool (cell 2 c).toBool] = (G0 rs k).J3 c := rfl
 simp only [S7, e]
 rw [Q4 (by omega) (by omega), cond_true]
 have hs := OF (G0 rs k) c
 have : setAt (S0 rs) k [D.int (G0 rs k).id, D.int ((G0 rs k).J3 c).1.ep, D.row ((G0 rs k).J3 c).1.mem, D.bool ((G0 rs k).J3 c).1.join, D.row ((G0 rs k).J3 c).1.row, D.bool ((G0 rs k).J3 c).1.live, D.int ((G0 rs k).J3 c).1.E0, D.int ((G0 rs k).J3 c).1.told, D.int ((G0 rs k).J3 c).1.P0, D.int ((G0 rs k).J3 c).1.base, D.bool ((G0 rs k).J3 c).1.heard, D.int ((G0 rs k).J3 c).1.need] = S0 (rs.set k ((G0 rs k).J3 c).1) := by
  rw [<- DW, hs]; rfl
 rw [this]
theorem L8 {rs : List L1} {k : Nat} (hk : k < rs.length) : setAt (S0 rs) k [D.int (G0 rs k).id, D.int (G0 rs k).ep, D.row (G0 rs k).mem, D.bool (G0 rs k).join, D.row (G0 rs k).row, D.bool (G0 rs k).live, D.int (G0 rs k).E0, D.int (G0 rs k).told, D.int (G0 rs k).P0, D.int (G0 rs k).base, D.bool (G0 rs k).heard, D.int (G0 rs k).need] = S0 rs := by
 rw [GK hk]; exact Mo hk
theorem gT {fu n : Nat} (hf : 1001 <= fu) (hn : n <= 900) (w : M0) (h : w.Inv n) (kind node at_ : Int) (x1 : Bool) (hx : x1 = (decide (kind = 2) || decide (kind = 3))) (h0 : ¬ kind = 0) (h1 : ¬ kind = 1) (G : List (List D) -> List (List D) -> List (List D) -> List (D × List D) -> Option R)
  (k0 k1 : List (List D) -> List (List D) -> Option R) (k2 : List (List D) -> List (D × List D) -> Option R) (k3 : List (List D) -> Option R) (k4 : List (List D) -> List (D × List D) -> List (List D) -> Option R)
  (e0 : ∀ a b, k0 a b = G a w.all b w.c.X5) (e1 : ∀ a b, k1 a b = G a w.all b w.c.X5) (e2 : ∀ a t, k2 a t = G a w.all w.U1 t) (e3 : ∀ a, k3 a = G a w.all w.U1 w.c.X5) (e4 : ∀ a t l, k4 a t l = G a l w.U1 t) :
  BC fu (E1 node : Nat) (E1 node) (AQ w.U1 at_) kind x1 w.G1 w.next w.bad (S0 w.rs) w.all w.U1 w.c.X5 kind at_ (cell 0 w.P3).toInt (cell 1 w.P3).C0 (cell 2 w.P3).toBool k0 k1 k2 k3 k4
   = G (S0 (w.op kind node at_).rs) (w.op kind node at_).all (w.op kind node at_).U1 (w.op kind node at_).c.X5 := by
 have h5 := h.Y7
 have hw := h.U1
 have ha := h.all
 have hk := Ap node
 have UH : E1 node < w.rs.length := by omega
 have I5 := h.ok _ (C9 UH)
 unfold BC M0.op
 simp only [if_neg h0, if_neg h1]
 by_cases h23 : kind = 2 \/ kind = 3
 ·have JP : x1 = true := by rw [hx]; rcases h23 with e | e <;> simp [e]
  rw [JP, cond_true, if_pos h23]
  rcases RQ w.U1 at_ with Ad | ⟨rT, kG⟩
  ·rw [Ad, u5 (by omega), cond_false, e2]; rfl
  ·rw [le_true rT, cond_true, if_pos rT]
   obtain ⟨i, hi⟩ : ∃ i : Nat, AQ w.U1 at_ = (i : Int) := ⟨(AQ w.U1 at_).toNat, by omega⟩
   rw [hi] at kG ⊢
   rw [Int.toNat_natCast]
   by_cases h3 : kind = 3
   ·rw [eq_true h3, cond_true]
    have := Nq (R := R) (fu := fu) (n0 := n) hf (by omega) w.rs h.ok h5 w.all w.U1 w.G1 w.next w.bad w.c (by omega) i (by omega) (decide (S1 w.U1.length < 300)) (fun a b => k0 a b) (fun a b => k1 a b) (k2 (S0 w.rs) w.c.X5) (fun a b => by rw [e1, e0]) (by rw [e2, e0])
    refine this.trans ?_
    have hd : decide (S1 w.U1.length < 300) = decide (w.U1.length < 300) := decide_eq_decide.2 (by unfold S1; omega)
    rw [e0, hd]; rfl
   ·rw [eq_false h3, cond_false]
    have := Nq (R := R) (fu := fu) (n0 := n) hf (by omega) w.rs h.ok h5 w.all w.U1 w.G1 w.next w.bad w.c (by omega) i (by omega) false (fun a b => k0 a b) (fun a b => k1 a b) (k2 (S0 w.rs) w.c.X5) (fun a b => by rw [e1, e0]) (by rw [e2, e0])
    refine this.trans ?_
    rw [e0]; rfl
 ·have JP : x1 = false := by rw [hx, eq_false (fun e => h23 (.inl e)), eq_false (fun e => h23 (.inr e))]; rfl
  rw [JP, cond_false, if_neg h23]
  by_cases h4 : kind = 4
  ·rw [eq_true h4, cond_true, if_pos h4]
   rcases RQ w.U1 at_ with Ad | ⟨rT, kG⟩
   ·rw [Ad, u5 (by omega), cond_false, e2]; rfl
   ·rw [le_true rT, cond_true, if_pos rT]
    obtain ⟨i, hi⟩ : ∃ i : Nat, AQ w.U1 at_ = (i : Int) := ⟨(AQ w.U1 at_).toNat, by omega⟩
    rw [hi] at kG ⊢
    rw [Int.toNat_natCast]
    have q1 : (decide ((0 : Int) <= 0 /\ 0 <= (i : Int)) && H9 (i : Int) w.U1.length) = true := by
     unfold H9; rw [Bool.and_eq_true]; exact ⟨decide_eq_true ⟨Int.le_refl _, by omega⟩, decide_eq_true ⟨by omega, by omega⟩⟩
    have ei : IntKind.i64.wrap ((i : Int) + 1) = ((i + 1 : Nat) : Int) := W5 (by omega)
    have el : (S1 w.U1.length).toNat = w.U1.length := by unfold S1; omega
    have q2 : (decide (0 <= IntKind.i64.wrap ((i : Int) + 1) /\ IntKind.i64.wrap ((i : Int) + 1) <= S1 w.U1.length) && H9 (S1 w.U1.length) w.U1.length) = true := by
     rw [ei]; unfold H9 S1; rw [Bool.and_eq_true]; exact ⟨decide_eq_true ⟨by omega, by omega⟩, decide_eq_true ⟨by omega, by omega⟩⟩
    have jq : (part w.U1 0 i).length <= w.U1.length := by unfold part; simp only [List.length_drop, List.length_take]; omega
    have oX : (part w.U1 (i + 1) w.U1.length).length <= w.U1.length := by unfold part; simp only [List.length_drop, List.length_take]; omega
    rw [q1, cond_true, Q4 (by omega) (by omega), cond_true, q2, cond_true, ei, Int.toNat_natCast, el, Q4 (by omega) (by omega), cond_true, e0]
    rfl
  ·rw [eq_false h4, cond_false, if_neg h4]
   by_cases h6 : kind = 5
   ·rw [eq_true h6, cond_true, if_pos h6]
    have Wx := Tc h at_
    by_cases Ad : 0 <= at_
    ·have hs := h.some_
     have t1 : at_.tmod (S1 w.all.length) = at_.tmod (w.all.length : Int) := rfl
     have t2 : 0 <= at_.tmod (w.all.length : Int) /\ at_.tmod (w.all.length : Int) < w.all.length := by
      rw [Int.tmod_eq_emod_of_nonneg Ad]
      exact ⟨Int.emod_nonneg _ (by omega), Int.emod_lt_of_pos _ (by omega)⟩
     have uh : w.Cd at_ = elem (at_.tmod (w.all.length : Int)).toNat w.all := by unfold M0.Cd; rw [if_pos Ad]
     rw [le_true Ad, cond_true, eq_false (show ¬ S1 w.all.length = 0 by unfold S1; omega), cond_false, t1, A7 t2.1 t2.2, cond_true, <- uh]
     have := Kq (R := R) (n := n) hf (by omega) w.rs h.ok (E1 node) UH w.U1 (by omega) (w.Cd at_) Wx (fun a b => k1 a b)
     refine this.trans ?_
     rw [e1]
    ·have uh : w.Cd at_ = w.P3 := by unfold M0.Cd; rw [if_neg Ad]
     rw [u5 Ad, cond_false]
     rw [uh] at Wx ⊢
     have := Kq (R := R) (n := n) hf (by omega) w.rs h.ok (E1 node) UH w.U1 (by omega) w.P3 Wx (fun a b => k1 a b)
     refine this.trans ?_
     rw [e1]
   ·rw [eq_false h6, cond_false, if_neg h6]
    by_cases h7 : kind = 6
    ·rw [eq_true h7, cond_true, if_pos h7]
     simp only [R7, S7, H6 UH, c0, c1, c2, c3, c4, c5, c6, c7, c8, c9, c10, c11]
     have F4 := I5.row
     rw [iN (G0 w.rs (E1 node)) I5.mem (by omega), L8 UH]
     refine (ba (G0 w.rs (E1 node)) (E1 node : Nat) I5.mem (by omega) _).trans ?_
     rw [D4 (by rw [G6]; omega), cond_true, Int.toNat_natCast]
     have Yi : setAt (S0 w.rs) (E1 node) [D.int ((E1 node : Nat) : Int), D.int (G0 w.rs (E1 node)).ep, D.row (G0 w.rs (E1 node)).mem, D.bool (G0 w.rs (E1 node)).join, D.row (G0 w.rs (E1 node)).row, D.bool false, D.int 0, D.int 0, D.int 0, D.int 0, D.bool false, D.int 0] = S0 (w.rs.set (E1 node) ((G0 w.rs (E1 node)).new (E1 node : Nat))) := DW w.rs (E1 node) ((G0 w.rs (E1 node)).new (E1 node : Nat))
     rw [Yi, D4 (by rw [G6, List.length_set]; omega), cond_true, e3]
    ·rw [eq_false h7, cond_false, if_neg h7]
     have ord : ∀ (kd ep : Int) (K4 : List (D × List D) -> List (List D) -> Option R) (K2 : List (D × List D) -> Option R), (∀ t l, K4 t l = G (S0 w.rs) l w.U1 t) -> (∀ t, K2 t = G (S0 w.rs) w.all w.U1 t) ->
       RY fu kd ep ((E1 node : Nat) : Int) (S0 w.rs) w.all w.U1 w.G1 w.next w.bad w.c.X5 K4 K2 = G (S0 (w.ordered kd ep (E1 node : Nat)).rs) (w.ordered kd ep (E1 node : Nat)).all (w.ordered kd ep (E1 node : Nat)).U1 (w.ordered kd ep (E1 node : Nat)).c.X5 := by
      intro kd ep K4 K2 g4 g2
      rw [Uz fu hf w.c h.X5 kd ep (E1 node : Nat) (S0 w.rs) w.all w.U1 w.G1 w.next w.bad (by omega)]
      unfold M0.ordered
      split
      ·rw [g4]
      ·rw [g2]
     by_cases h8 : kind = 7
     ·rw [eq_true h8, cond_true, if_pos h8]
      exact ord 1 _ _ _ (fun t l => by rw [e4]) (fun t => by rw [e2])
     ·rw [eq_false h8, cond_false, if_neg h8]
      by_cases h9 : kind = 8
      ·rw [eq_true h9, cond_true, if_pos h9]
       exact ord 2 _ _ _ (fun t l => by rw [e4]) (fun t => by rw [e2])
      ·rw [eq_false h9, cond_false, if_neg h9]
       by_cases h10 : kind = 9
       ·rw [eq_true h10, cond_true, if_pos h10]
        have hm := I5.mem
        simp only [R7, S7, H6 UH, c0, c1, c2, c3, c4, c5, c6, c7, c8, c9, c10, c11, Td (R := R) (r := G0 w.rs (E1 node)) hf (by omega), L8 UH, TT]
        cases AV : (G0 w.rs (E1 node)).complete with
        | true =>
         rw [cond_true, if_pos rfl]
         exact ord 3 _ _ _ (fun t l => by rw [e4]) (fun t => by rw [e2])
        | false =>
         rw [cond_false, if_neg (by simp), e2]
       ·rw [eq_false h10, cond_false, if_neg h10, e2]
end Go.Proofs.Ythlbahcggmbfaaa.V
namespace Go.Proofs.Ythlbahcggmbfaaa.V
variable {R : Type}
theorem lookW {fu m : Nat} (hf : 1001 <= fu) (hm : m <= 1000) (v : M0) (h : v.Inv m) (k : List (List D) -> Bool -> List (List D) -> Option R) :
  F39 fu (S0 v.rs) v.all v.U1 v.G1 v.next v.bad v.c.X5 k = k v.look.G1 v.look.bad (S0 v.look.rs) := look_ok hf hm v.rs h.ok h.Y7 v.c h.X5 v.G1 h.G1 v.all v.U1 v.next v.bad k
theorem VA (r : L1) (cmd : ByteArray) : (r.order cmd).1.head = r.head := by
 unfold L1.order
 split
 ·rw [add_same]; rfl
 ·rfl
theorem NC (r : L1) (cmd : ByteArray) : (r.order cmd).1 = { r with row := (r.order cmd).1.row, E0 := (r.order cmd).1.E0 } := by
 unfold L1.order
 split
 ·conv => lhs; rw [add_same]
  conv => rhs; rw [add_same]
 ·rfl
theorem LI (fu : Nat) (a b : List (List D)) (h : a.length + b.length <= 1000000) (k : List (List D) -> Option R) : s6 fu a b k = k (a ++ b) := by
 unfold s6; rw [Q4 h (by omega), cond_true]
theorem s7 {rs : List L1} {k : Nat} (h : k < rs.length) (q : L1) : G0 (rs.set k q) k = q := by
 unfold G0; rw [List.getD_eq_getElem?_getD, List.getElem?_set_self h]; rfl
theorem hZ (w : M0) {kind node at_ : Int} (h0 : ¬ kind = 0) : (w.op kind node at_).G1 = w.G1 /\ (w.op kind node at_).next = w.next /\ (w.op kind node at_).bad = w.bad := by
 have ho : ∀ a b c, (w.ordered a b c).G1 = w.G1 /\ (w.ordered a b c).next = w.next /\ (w.ordered a b c).bad = w.bad := fun a b c => by
  unfold M0.ordered; split <;> exact ⟨rfl, rfl, rfl⟩
 unfold M0.op
 simp only [if_neg h0]
 repeat' split
 all_goals first | exact ⟨rfl, rfl, rfl⟩ | exact ho _ _ _
theorem nJ {fu n : Nat} (hf : 1001 <= fu) (hn : n <= 900) (w : M0) (h : w.Inv n) (kind node at_ : Int) (h0 : kind = 0) (g : List (List D) -> Int -> Bool -> List (List D) -> List (List D) -> Option R) :
  (F14 fu (IntKind.i64.wrap (w.next + 1)) fun u3 => R7 (elem (E1 node) (S0 w.rs)) fun Ck => F30 fu u3 (cell 0 Ck).toInt (cell 1 Ck).toInt (cell 2 Ck).C0 (cell 3 Ck).toBool (cell 4 Ck).C0 (cell 5 Ck).toBool (cell 6 Ck).toInt (cell 7 Ck).toInt (cell 8 Ck).toInt (cell 9 Ck).toInt (cell 10 Ck).toBool (cell 11 Ck).toInt fun J2 B3 A4 G5 Y5 => S7 (setAt (S0 w.rs) (E1 node) [D.int (cell 0 Ck).toInt, D.int (cell 1 Ck).toInt, D.row (cell 2 Ck).C0, D.bool (cell 3 Ck).toBool, D.row A4, D.bool (cell 5 Ck).toBool, D.int G5, D.int (cell 7 Ck).toInt, D.int (cell 8 Ck).toInt, D.int (cell 9 Ck).toInt, D.bool (cell 10 Ck).toBool, D.int (cell 11 Ck).toInt]) fun dA => bif w.bad then s6 fu w.U1 Y5 fun W8 => F39 fu dA w.all W8 w.G1 (IntKind.i64.wrap (w.next + 1)) true w.c.X5 fun R9 Q5 H5 => (g R9 (IntKind.i64.wrap (w.next + 1)) Q5 H5 W8) else R7 (elem (E1 node) dA) fun A8 => F23 fu (cell 0 A8).toInt (cell 1 A8).toInt (cell 2 A8).C0 (cell 3 A8).toBool (cell 4 A8).C0 (cell 5 A8).toBool (cell 6 A8).toInt (cell 7 A8).toInt (cell 8 A8).toInt (cell 9 A8).toInt (cell 10 A8).toBool (cell 11 A8).toInt fun M6 => S7 (setAt dA (E1 node) [D.int (cell 0 A8).toInt, D.int (cell 1 A8).toInt, D.row (cell 2 A8).C0, D.bool (cell 3 A8).toBool, D.row (cell 4 A8).C0, D.bool (cell 5 A8).toBool, D.int (cell 6 A8).toInt, D.int (cell 7 A8).toInt, D.int (cell 8 A8).toInt, D.int (cell 9 A8).toInt, D.bool (cell 10 A8).toBool, D.int (cell 11 A8).toInt]) fun JZ => bif !decide (B3 = 0) == M6 then s6 fu w.U1 Y5 fun H7 => F39 fu JZ w.all H7 w.G1 (IntKind.i64.wrap (w.next + 1)) true w.c.X5 fun o9 o4 M9 => (g o9 (IntKind.i64.wrap (w.next + 1)) o4 M9 H7) else bif decide (B3 = 0) then R7 (elem (E1 node) JZ) fun o7 => F16 fu (cell 0 o7).toInt (cell 1 o7).toInt (cell 2 o7).C0 (cell 3 o7).toBool (cell 4 o7).C0 (cell 5 o7).toBool (cell 6 o7).toInt (cell 7 o7).toInt (cell 8 o7).toInt (cell 9 o7).toInt (cell 10 o7).toBool (cell 11 o7).toInt (S7 (setAt JZ (E1 node) [D.int (cell 0 o7).toInt, D.int (cell 1 o7).toInt, D.row (cell 2 o7).C0, D.bool (cell 3 o7).toBool, D.row (cell 4 o7).C0, D.bool (cell 5 o7).toBool, D.int (cell 6 o7).toInt, D.int (cell 7 o7).toInt, D.int (cell 8 o7).toInt, D.int (cell 9 o7).toInt, D.bool (cell 10 o7).toBool, D.int (cell 11 o7).toInt]) fun Vm => s6 fu w.U1 Y5 fun Dd => F39 fu Vm w.all Dd w.G1 (IntKind.i64.wrap (w.next + 1)) (!decide (J2 = S1 (cell 4 o7).C0.length)) w.c.X5 fun FV HQ JK => (g FV (IntKind.i64.wrap (w.next + 1)) HQ JK Dd)) else s6 fu w.U1 Y5 fun HP => F39 fu JZ w.all HP w.G1 (IntKind.i64.wrap (w.next + 1)) false w.c.X5 fun JJ NI NH => (g JJ (IntKind.i64.wrap (w.next + 1)) NI NH HP))
   = g (w.U2 kind node at_).G1 (w.U2 kind node at_).next (w.U2 kind node at_).bad (S0 (w.U2 kind node at_).rs) (w.U2 kind node at_).U1 := by
 have h5 := h.Y7
 have hw := h.U1
 have hk := Ap node
 have UH : E1 node < w.rs.length := by omega
 have I5 := h.ok _ (C9 UH)
 have hi := M0.VF h kind node at_
 have K0 : w.op kind node at_ = { w with next := IntKind.i64.wrap (w.next + 1), rs := w.rs.set (E1 node) ((G0 w.rs (E1 node)).order (O6 (IntKind.i64.wrap (w.next + 1)))).1, U1 := w.U1 ++ ((G0 w.rs (E1 node)).order (O6 (IntKind.i64.wrap (w.next + 1)))).2 } := by
  unfold M0.op; simp only [if_pos h0]
 rw [K0] at hi
 unfold M0.U2
 rw [K0, WJ]
 have cJ := PI (G0 w.rs (E1 node)) (O6 (IntKind.i64.wrap (w.next + 1)))
 have sR := NC (G0 w.rs (E1 node)) (O6 (IntKind.i64.wrap (w.next + 1)))
 have tu := VA (G0 w.rs (E1 node)) (O6 (IntKind.i64.wrap (w.next + 1)))
 have Ds : (G0 w.rs (E1 node)).head = false -> (G0 w.rs (E1 node)).order (O6 (IntKind.i64.wrap (w.next + 1))) = (G0 w.rs (E1 node), []) := fun hh => by unfold L1.order; rw [hh]; rfl
 have uw := Se I5 (O6 (IntKind.i64.wrap (w.next + 1)))
 simp only [R7, H6 UH, c0, c1, c2, c3, c4, c5, c6, c7, c8, c9, c10, c11]
 rw [bO hf I5 (by omega)]
 generalize hq : (G0 w.rs (E1 node)).order (O6 (IntKind.i64.wrap (w.next + 1))) = q at *
 obtain ⟨q, out⟩ := q
 simp only at sR tu cJ uw hi ⊢
 have hqrow := uw.row
 have hqmem := uw.mem
 have Yi : setAt (S0 w.rs) (E1 node) [D.int (G0 w.rs (E1 node)).id, D.int (G0 w.rs (E1 node)).ep, D.row (G0 w.rs (E1 node)).mem, D.bool (G0 w.rs (E1 node)).join, D.row q.row, D.bool (G0 w.rs (E1 node)).live, D.int q.E0, D.int (G0 w.rs (E1 node)).told, D.int (G0 w.rs (E1 node)).P0, D.int (G0 w.rs (E1 node)).base, D.bool (G0 w.rs (E1 node)).heard, D.int (G0 w.rs (E1 node)).need] = S0 (w.rs.set (E1 node) q) := by
  rw [<- DW]; conv => rhs; rw [sR]
  rfl
 have ji : E1 node < (w.rs.set (E1 node) q).length := by rw [List.length_set]; exact UH
 have sT : G0 (w.rs.set (E1 node) q) (E1 node) = q := s7 UH q
 have same := L8 ji
 rw [sT] at same
 have look := fun (K : List (List D) -> Bool -> List (List D) -> Option R) => lookW (R := R) hf (by omega) _ hi K
 simp only at look
 cases hh : (G0 w.rs (E1 node)).head with
 | true =>
  rw [if_pos rfl]
  simp only [S7, Yi]
  cases hb : w.bad with
  | true =>
   rw [cond_true, LI fu _ _ (by omega)]
   rw [hb] at look
   exact look _
  | false =>
   rw [hb] at look
   rw [cond_false]
   simp only [H6 ji, sT, c0, c1, c2, c3, c4, c5, c6, c7, c8, c9, c10, c11]
   rw [Lb hf (by omega), tu, hh]
   simp only [same]
   show F16 _ _ _ _ _ _ _ _ _ _ _ _ _ _ = _
   simp only [H6 ji, sT, c0, c1, c2, c3, c4, c5, c6, c7, c8, c9, c10, c11, same]
   rw [Mt q (by omega), LI fu _ _ (by omega), eq_true (show (q.row.length : Int) = S1 q.row.length from rfl)]
   exact look _
 | false =>
  have Ds := Ds hh
  injection Ds with q1 q2
  rw [if_neg (by simp)]
  subst q1 q2
  simp only [S7, Yi]
  cases hb : w.bad with
  | true =>
   rw [cond_true, LI fu _ _ (by simp; omega)]
   rw [hb] at look
   exact look _
  | false =>
   rw [hb] at look
   rw [cond_false]
   simp only [H6 ji, sT, c0, c1, c2, c3, c4, c5, c6, c7, c8, c9, c10, c11]
   rw [Lb hf (by omega), tu, hh]
   simp only [same]
   rw [eq_false (show ¬ (10 : Int) = 0 by omega)]
   rw [show (!(false == false)) = false from rfl, cond_false, cond_false, LI fu _ _ (by simp; omega)]
   exact look _
theorem TX {fu n : Nat} (hf : 1001 <= fu) (hn : n <= 900) (w : M0) (h : w.Inv n) (kind node at_ : Int) (G : List (List D) -> Int -> Bool -> List (List D) -> List (List D) -> List (List D) -> List (D × List D) -> Option R)
  (k0 : List (List D) -> Int -> Bool -> List (List D) -> List (List D) -> Option R) (k1 : List (List D) -> Bool -> List (List D) -> List (List D) -> Option R) (k2 : List (List D) -> Bool -> List (List D) -> List (D × List D) -> Option R) (k3 : List (List D) -> Bool -> List (List D) -> Option R) (k4 : List (List D) -> Bool -> List (List D) -> List (D × List D) -> List (List D) -> Option R)
  (e0 : ∀ b x bd r y, k0 b x bd r y = G b x bd r w.all y w.c.X5) (e1 : ∀ b bd r y, k1 b bd r y = G b w.next bd r w.all y w.c.X5) (e2 : ∀ b bd r t, k2 b bd r t = G b w.next bd r w.all w.U1 t) (e3 : ∀ b bd r, k3 b bd r = G b w.next bd r w.all w.U1 w.c.X5) (e4 : ∀ b bd r t l, k4 b bd r t l = G b w.next bd r l w.U1 t) :
  Gc fu (E1 node : Nat) (E1 node) (AQ w.U1 at_) w.G1 w.next w.bad (S0 w.rs) w.all w.U1 w.c.X5 kind at_ k0 k1 k2 k3 k4
   = G (w.U2 kind node at_).G1 (w.U2 kind node at_).next (w.U2 kind node at_).bad (S0 (w.U2 kind node at_).rs) (w.U2 kind node at_).all (w.U2 kind node at_).U1 (w.U2 kind node at_).c.X5 := by
 have h5 := h.Y7
 have hw := h.U1
 have ha := h.all
 have hs := h.some_
 have hk := Ap node
 have UH : E1 node < w.rs.length := by omega
 have I5 := h.ok _ (C9 UH)
 have hi := M0.VF h kind node at_
 unfold Gc
 have ew : IntKind.i64.wrap (S1 w.all.length - 1) = ((w.all.length - 1 : Nat) : Int) := by rw [j5 (by unfold S1; omega) (by unfold S1; omega)]; unfold S1; omega
 rw [ew, D4 (by omega), cond_true, Int.toNat_natCast]
 by_cases h0 : kind = 0
 ·rw [eq_true h0, cond_true]
  refine (nJ (R := R) hf hn w h kind node at_ h0 (fun a b c d e => k0 a b c d e)).trans ?_
  rw [e0]
  have e : (w.U2 kind node at_).all = w.all /\ (w.U2 kind node at_).c = w.c := by
   unfold M0.U2 M0.look M0.op; rw [if_pos h0]; exact ⟨rfl, rfl⟩
  rw [e.1, e.2]
 ·rw [eq_false h0, cond_false]
  obtain ⟨s1, s2, s3⟩ := hZ w (kind := kind) (node := node) (at_ := at_) h0
  by_cases h1 : kind = 1
  ·rw [eq_true h1, cond_true]
   have K0 : w.op kind node at_ = { w with U1 := w.U1 ++ (G0 w.rs (E1 node)).again } := by
    unfold M0.op; simp only [if_neg h0, if_pos h1]
   have hl := GW (G0 w.rs (E1 node))
   simp only [R7, S7, H6 UH, c0, c1, c2, c3, c4, c5, c6, c7, c8, c9, c10, c11]
   rw [OC hf I5 (by omega), L8 UH, Q4 (by omega) (by omega), cond_true]
   unfold M0.U2
   rw [K0] at hi ⊢
   refine (lookW (R := R) hf (by omega) _ hi _).trans ?_
   rw [e0]; rfl
  ·rw [eq_false h1, cond_false]
   have key : ∀ x1, x1 = (decide (kind = 2) || decide (kind = 3)) -> ∀ (a0 a1 : List (List D) -> List (List D) -> Option R) (a2 : List (List D) -> List (D × List D) -> Option R) (a3 : List (List D) -> Option R) (a4 : List (List D) -> List (D × List D) -> List (List D) -> Option R),
     (∀ a b, a0 a b = F39 fu a w.all b w.G1 w.next w.bad w.c.X5 fun x y z => G x w.next y z w.all b w.c.X5) -> (∀ a b, a1 a b = F39 fu a w.all b w.G1 w.next w.bad w.c.X5 fun x y z => G x w.next y z w.all b w.c.X5) -> (∀ a t, a2 a t = F39 fu a w.all w.U1 w.G1 w.next w.bad t fun x y z => G x w.next y z w.all w.U1 t) -> (∀ a, a3 a = F39 fu a w.all w.U1 w.G1 w.next w.bad w.c.X5 fun x y z => G x w.next y z w.all w.U1 w.c.X5) -> (∀ a t l, a4 a t l = F39 fu a l w.U1 w.G1 w.next w.bad t fun x y z => G x w.next y z l w.U1 t) ->
     BC fu (E1 node : Nat) (E1 node) (AQ w.U1 at_) kind x1 w.G1 w.next w.bad (S0 w.rs) w.all w.U1 w.c.X5 kind at_ (cell 0 w.P3).toInt (cell 1 w.P3).C0 (cell 2 w.P3).toBool a0 a1 a2 a3 a4
      = G (w.U2 kind node at_).G1 (w.U2 kind node at_).next (w.U2 kind node at_).bad (S0 (w.U2 kind node at_).rs) (w.U2 kind node at_).all (w.U2 kind node at_).U1 (w.U2 kind node at_).c.X5 := by
    intro x1 hx a0 a1 a2 a3 a4 f0 f1 f2 f3 f4
    refine (gT (R := R) hf hn w h kind node at_ x1 hx h0 h1 (fun a l b t => F39 fu a l b w.G1 w.next w.bad t fun x y z => G x w.next y z l b t) a0 a1 a2 a3 a4 f0 f1 f2 f3 f4).trans ?_
    have := lookW (R := R) hf (by omega) (w.op kind node at_) hi (fun x y z => G x w.next y z (w.op kind node at_).all (w.op kind node at_).U1 (w.op kind node at_).c.X5)
    rw [s1, s2, s3] at this
    refine this.trans ?_
    rw [<- s2]; rfl
   by_cases h2 : kind = 2
   ·have h3 : ¬ kind = 3 := by omega
    rw [eq_true h2, cond_true]
    exact key true (by rw [eq_true h2]; rfl) _ _ _ _ _ (fun a b => by simp only [e1]) (fun a b => by simp only [e0]) (fun a t => by simp only [e2]) (fun a => by simp only [e3]) (fun a t l => by simp only [e4])
   ·rw [eq_false h2, cond_false]
    exact key (decide (kind = 3)) (by rw [eq_false h2]; rfl) _ _ _ _ _ (fun a b => by simp only [e1]) (fun a b => by simp only [e0]) (fun a t => by simp only [e2]) (fun a => by simp only [e3]) (fun a t l => by simp only [e4])
theorem RH {fu n : Nat} (hf : 1001 <= fu) (hn : n <= 900) (w : M0) (h : w.Inv n) (kind node at_ : Int) (kk : Int) (mI : kk = (E1 node : Nat)) (G : List (List D) -> Int -> Bool -> List (List D) -> List (List D) -> List (List D) -> List (D × List D) -> Option R)
  (k0 : List (List D) -> Int -> Bool -> List (List D) -> List (List D) -> Option R) (k1 : List (List D) -> Bool -> List (List D) -> List (List D) -> Option R) (k2 : List (List D) -> Bool -> List (List D) -> List (D × List D) -> Option R) (k3 : List (List D) -> Bool -> List (List D) -> Option R) (k4 : List (List D) -> Bool -> List (List D) -> List (D × List D) -> List (List D) -> Option R)
  (e0 : ∀ b x bd r y, k0 b x bd r y = G b x bd r w.all y w.c.X5) (e1 : ∀ b bd r y, k1 b bd r y = G b w.next bd r w.all y w.c.X5) (e2 : ∀ b bd r t, k2 b bd r t = G b w.next bd r w.all w.U1 t) (e3 : ∀ b bd r, k3 b bd r = G b w.next bd r w.all w.U1 w.c.X5) (e4 : ∀ b bd r t l, k4 b bd r t l = G b w.next bd r l w.U1 t) :
  Ho fu kk w.G1 w.next w.bad (S0 w.rs) w.all w.U1 w.c.X5 kind at_ k0 k1 k2 k3 k4
   = G (w.U2 kind node at_).G1 (w.U2 kind node at_).next (w.U2 kind node at_).bad (S0 (w.U2 kind node at_).rs) (w.U2 kind node at_).all (w.U2 kind node at_).U1 (w.U2 kind node at_).c.X5 := by
 have h5 := h.Y7
 have hk := Ap node
 subst mI
 unfold Ho
 rw [D4 (by rw [G6]; omega), cond_true, Int.toNat_natCast]
 have Ad : ∀ x, x = (decide (0 < w.U1.length) && decide (0 <= at_)) -> (if x then at_.tmod (w.U1.length : Int) else -1) = AQ w.U1 at_ := fun x hx => by
  subst hx
  unfold AQ
  by_cases a : 0 < w.U1.length <;> by_cases b : 0 <= at_ <;> simp [a, b]
 by_cases hl : 0 < w.U1.length
 ·rw [N2 (show (0 : Int) < S1 w.U1.length by unfold S1; omega), cond_true, dy _ _ _ _ (fun _ => hl), Ad _ (by rw [decide_eq_true hl]; rfl)]
  exact TX hf hn w h kind node at_ G _ _ _ _ _ e0 e1 e2 e3 e4
 ·rw [W1 (show ¬ (0 : Int) < S1 w.U1.length by unfold S1; omega), cond_false, dy _ _ _ _ (fun q => by cases q), Ad _ (by rw [decide_eq_false hl]; rfl)]
  exact TX hf hn w h kind node at_ G _ _ _ _ _ e0 e1 e2 e3 e4
theorem GR {fu n : Nat} (hf : 1001 <= fu) (hn : n <= 900) (w : M0) (h : w.Inv n) (o : List D) (G : List (List D) -> Int -> Bool -> List (List D) -> List (List D) -> List (List D) -> List (D × List D) -> Option R)
  (k0 : List (List D) -> Int -> Bool -> List (List D) -> List (List D) -> Option R) (k1 : List (List D) -> Bool -> List (List D) -> List (List D) -> Option R) (k2 : List (List D) -> Bool -> List (List D) -> List (D × List D) -> Option R) (k3 : List (List D) -> Bool -> List (List D) -> Option R) (k4 : List (List D) -> Bool -> List (List D) -> List (D × List D) -> List (List D) -> Option R)
  (e0 : ∀ b x bd r y, k0 b x bd r y = G b x bd r w.all y w.c.X5) (e1 : ∀ b bd r y, k1 b bd r y = G b w.next bd r w.all y w.c.X5) (e2 : ∀ b bd r t, k2 b bd r t = G b w.next bd r w.all w.U1 t) (e3 : ∀ b bd r, k3 b bd r = G b w.next bd r w.all w.U1 w.c.X5) (e4 : ∀ b bd r t l, k4 b bd r t l = G b w.next bd r l w.U1 t) :
  F13 fu o (S0 w.rs) w.all w.U1 w.G1 w.next w.bad w.c.X5 k0 k1 k2 k3 k4
   = G (w.U2 (cell 0 o).toInt (cell 1 o).toInt (cell 2 o).toInt).G1 (w.U2 (cell 0 o).toInt (cell 1 o).toInt (cell 2 o).toInt).next (w.U2 (cell 0 o).toInt (cell 1 o).toInt (cell 2 o).toInt).bad (S0 (w.U2 (cell 0 o).toInt (cell 1 o).toInt (cell 2 o).toInt).rs) (w.U2 (cell 0 o).toInt (cell 1 o).toInt (cell 2 o).toInt).all (w.U2 (cell 0 o).toInt (cell 1 o).toInt (cell 2 o).toInt).U1 (w.U2 (cell 0 o).toInt (cell 1 o).toInt (cell 2 o).toInt).c.X5 := by
 rw [fX]
 unfold oG
 generalize (cell 0 o).toInt = kind
 generalize (cell 1 o).toInt = node
 generalize (cell 2 o).toInt = at_
 by_cases h0 : node < 0
 ·rw [N2 h0, cond_true]
  exact RH hf hn w h kind node at_ 0 (by unfold E1; rw [if_pos h0]; rfl) G _ _ _ _ _ e0 e1 e2 e3 e4
 ·rw [W1 h0, cond_false]
  by_cases h5 : 5 <= node
  ·rw [le_true h5, cond_true]
   exact RH hf hn w h kind node at_ 0 (by unfold E1; rw [if_neg h0, if_pos h5]; rfl) G _ _ _ _ _ e0 e1 e2 e3 e4
  ·rw [u5 h5, cond_false]
   exact RH hf hn w h kind node at_ node (by unfold E1; rw [if_neg h0, if_neg h5]; omega) G _ _ _ _ _ e0 e1 e2 e3 e4
end Go.Proofs.Ythlbahcggmbfaaa.V
namespace Go.Proofs.Ythlbahcggmbfaaa.V
variable {R : Type}
theorem Tb (fu : Nat) (s : List (List D)) (v : Int) (hs : s.length <= 1000) (hf : 1001 <= fu) (k : Bool -> Option R) : F60 fu s v k = k (decide (0 <= n7 s v)) := by
 rw [eY]; unfold nP; exact Sw fu s v hs hf _
theorem Qj (fu : Nat) (hf : 1001 <= fu) (l : List (List D)) (hl : l.length <= 100) (hg : ∀ i < l.length, ((0 <= (cell 0 (elem i l)).toInt /\ (cell 0 (elem i l)).toInt < 100) /\ n7 (part l 0 i) (cell 0 (elem i l)).toInt < 0)) (k0 k1 : Option R) : ∀ (n i : Nat), l.length + 1 <= i + n -> i <= l.length ->
  Jm fu l l (S1 l.length) n (i : Int) k0 k1 = k1 := by
 intro n
 induction n with
 | zero => intro i h1 h2; omega
 | succ n ih =>
  intro i h1 h2
  unfold Jm
  by_cases hi : i < l.length
  ·obtain ⟨g1, g2⟩ := hg i hi
   rw [N2 (show (i : Int) < S1 l.length by unfold S1; omega), cond_true, D4 hi, cond_true, Int.toNat_natCast, Wf, decide_eq_true g1]
   have q : (decide ((0 : Int) <= 0 /\ 0 <= (i : Int)) && H9 (i : Int) l.length) = true := by
    unfold H9; rw [Bool.and_eq_true]; exact ⟨decide_eq_true ⟨Int.le_refl _, by omega⟩, decide_eq_true ⟨by omega, by omega⟩⟩
   have hp : (part l 0 i).length <= 1000 := by unfold part; simp only [List.length_drop, List.length_take]; omega
   rw [Bool.not_true, cond_false, q, cond_true, Tb fu _ _ hp hf, u5 (by omega), cond_false, W5 (by omega)]
   exact ih (i + 1) (by omega) (by omega)
  ·rw [W1 (show ¬ (i : Int) < S1 l.length by unfold S1; omega), cond_false]
def M8 (m : Nat) : List (List D) := (List.range m).map fun k => [D.int (k : Nat)]
theorem Df (m : Nat) : (M8 m).length = m := by simp [M8]
theorem VO (m : Nat) : M8 (m + 1) = M8 m ++ [[D.int (m : Nat)]] := by simp [M8, List.range_succ]
theorem VP (fu : Nat) (hf : 1001 <= fu) (m : Nat) (h1 : 1 <= m) (h2 : m <= 4) (k : Bool -> Option R) : F56 fu (M8 m) k = k true := by
 rw [ee]
 unfold nS
 have hl := Df m
 have hg : ∀ i < (M8 m).length, ((0 <= (cell 0 (elem i (M8 m))).toInt /\ (cell 0 (elem i (M8 m))).toInt < 100) /\ n7 (part (M8 m) 0 i) (cell 0 (elem i (M8 m))).toInt < 0) := by
  have : m = 1 \/ m = 2 \/ m = 3 \/ m = 4 := by omega
  rcases this with rfl | rfl | rfl | rfl <;> decide
 have := Qj (R := R) fu hf (M8 m) (by omega) hg (k false) (bif decide (1 <= S1 (M8 m).length) then (k (decide (S1 (M8 m).length <= 7))) else (k false)) fu 0 (by omega) (by omega)
 refine this.trans ?_
 rw [hl, le_true (show (1 : Int) <= S1 m by unfold S1; omega), cond_true, le_true (show S1 m <= 7 by unfold S1; omega)]
def QO (k : Nat) : L1 := ⟨(k : Nat), 0, [], false, [], false, 0, 0, 0, 0, false, 0⟩
def Q6 (n : Nat) : List L1 := (List.range n).map QO
theorem YJ (n : Nat) : Q6 (n + 1) = Q6 n ++ [QO n] := by simp [Q6, List.range_succ]
theorem qQ {fu : Nat} (x : Int) (k : Int -> List (List D) -> Bool -> List (List D) -> Option R) : F29 fu x [D.int 0, D.row [], D.bool false, D.row []] k = k 0 [] false [] :=
 ba (QO 0) x (by simp [QO]) (by simp [QO]) k
theorem Vs (fu : Nat) (many : Nat) (hm : many <= 4) (k0 : List (List D) -> List (List D) -> Option R) : ∀ (n i : Nat), 6 <= i + n -> i <= 5 ->
  Ed fu (many : Int) n (i : Int) (M8 (min i many)) (S0 (Q6 i)) k0 = k0 (M8 many) (S0 (Q6 5)) := by
 intro n
 induction n with
 | zero => intro i h1 h2; omega
 | succ n ih =>
  intro i h1 h2
  unfold Ed
  by_cases hi : i < 5
  ·have hy : S0 (Q6 i) ++ [[D.int (i : Nat), D.int 0, D.row [], D.bool false, D.row [], D.bool false, D.int 0, D.int 0, D.int 0, D.int 0, D.bool false, D.int 0]] = S0 (Q6 (i + 1)) := by
    rw [YJ]; simp [S0, QO, L1.cells]
   have vi : (S0 (Q6 i)).length = i := by simp [S0, Q6]
   have TI := Df (min i many)
   rw [N2 (show (i : Int) < 5 by omega), cond_true, vi, TI]
   by_cases hb : i < many
   ·rw [N2 (show (i : Int) < (many : Int) by omega), cond_true, Q4 (by omega) (by omega), cond_true, qQ, Q4 (by omega) (by omega), cond_true, hy, W5 (by omega)]
    have e : M8 (min i many) ++ [[D.int (i : Nat)]] = M8 (min (i + 1) many) := by
     rw [show min (i + 1) many = i + 1 by omega, show min i many = i by omega, VO]
    rw [e]
    exact ih (i + 1) (by omega) (by omega)
   ·rw [W1 (show ¬ (i : Int) < (many : Int) by omega), cond_false, qQ, Q4 (by omega) (by omega), cond_true, hy, W5 (by omega), show min i many = min (i + 1) many by omega]
    exact ih (i + 1) (by omega) (by omega)
  ·rw [W1 (show ¬ (i : Int) < 5 by omega), cond_false, show i = 5 by omega, show min 5 many = many by omega]
def Cf.first (m : Nat) : Cf := ⟨1, M8 m, false⟩
def M0.begin (m : Nat) : M0 := ⟨Q6 5, [(Cf.first m).d], [], [], 0, false, Cf.first m⟩
theorem CB (m : Nat) (hm : m <= 4) : (M0.begin m).Inv 0 := by
 have hl := Df m
 refine ⟨by simp [M0.begin, Q6], ?_, by simp [M0.begin], by simp [M0.begin], ?_, by simp [M0.begin], by simp [M0.begin], by show (M8 m).length <= 100; omega⟩
 ·intro r hr
  obtain ⟨k, _, rfl⟩ := List.mem_map.1 hr
  exact ⟨by simp [QO], by simp [QO], Int.le_refl _, Int.le_refl _, Int.le_refl _, Int.le_refl _, Int.le_refl _, Int.le_refl _⟩
 ·intro c hc
  rw [show (M0.begin m).all = [(Cf.first m).d] from rfl, List.mem_singleton] at hc
  subst hc
  show (M8 m).length <= 100; omega
theorem wc (kd sh ep nd : Int) (mb : List (List D)) : (cell 4 [D.int kd, D.int sh, D.int ep, D.int nd, D.row mb]).C0 = mb := of_eq_true (eq_self _)
theorem ao (fu : Nat) (hf : 1001 <= fu) (m : Nat) (h1 : 1 <= m) (h2 : m <= 4) (k0 : Int -> List (D × List D) -> Option R) :
  Ra fu [D.int 0, D.int 0, D.int 0, D.int 0, D.row (M8 m)] [] k0 = k0 0 (Cf.first m).X5 := by
 rw [RZ]
 unfold Xd
 simp only [vX, vW, vV, vU, wc]
 have hl := Df m
 rw [W1 (show ¬ (0 : Int) < 0 by omega), cond_false, W1 (show ¬ (3 : Int) < 0 by omega), cond_false, cond_false, u5 (show ¬ (10 : Int) <= 0 by omega), cond_false, decide_true, cond_true, show JN ([] : List (D × List D)) (D.int 0) = false from rfl, cond_false, VP fu hf m h1 h2, Bool.not_true, cond_false, Q4 (by omega) (by omega), cond_true]
 rfl
theorem Tk {fu : Nat} (hf : 1001 <= fu) (m : Nat) (h1 : 1 <= m) (h2 : m <= 4) (k0 : Option R) (k1 : List (List D) -> List (List D) -> List (D × List D) -> Option R) :
  F11 fu (m : Int) k0 k1 = k1 (S0 (M0.begin m).rs) (M0.begin m).all (M0.begin m).c.X5 := by
 rw [fZ]
 unfold oI
 rw [fD]
 unfold ni
 have := Vs (R := R) fu m h2 (fun u3 N1 => Ra fu [D.int 0, D.int 0, D.int 0, D.int 0, D.row u3] [] fun J2 B3 => bif !decide (J2 = 0) then (k0) else F36 fu N1 [] [] [] 0 false B3 fun A4 => (k1 N1 A4 B3)) fu 0 (by omega) (by omega)
 refine this.trans ?_
 rw [ao fu hf m h1 h2, eq_true (show (0 : Int) = 0 from rfl), Bool.not_true, cond_false, We fu (Cf.first m) (by have := Df m; show (M8 m).length <= 100; omega) (S0 (Q6 5)) [] [] [] 0 false (by simp)]
 rfl
def M0.jZ (w : M0) (o : List D) : M0 := w.U2 (cell 0 o).toInt (cell 1 o).toInt (cell 2 o).toInt
def M0.z7 (w : M0) : List (List D) -> M0
 | [] => w
 | o :: l => (w.jZ o).z7 l
theorem Ft : ∀ (l : List (List D)) (w : M0) (n : Nat), w.Inv n -> (w.z7 l).Inv (n + l.length)
 | [], _, _, h => h
 | o :: l, w, n, h => by
  have := Ft l (w.jZ o) (n + 1) (M0.Fo h _ _ _)
  rw [List.length_cons, show n + (l.length + 1) = n + 1 + l.length by omega]
  exact this
def DG : List (List D) := [[D.int 5, D.int 0, D.int (-1)], [D.int 5, D.int 1, D.int (-1)], [D.int 0, D.int 0, D.int 0]]
theorem Tp {fu : Nat} (hf : 1001 <= fu) (k0 : List (List D) -> Int -> Bool -> List (List D) -> List (List D) -> List (List D) -> List (D × List D) -> Option R) : ∀ (n i m : Nat) (w : M0), w.Inv m -> m + 3 <= 900 + i -> 4 <= i + n -> i <= 3 ->
  AU fu 3 DG n (i : Int) w.G1 w.next w.bad (S0 w.rs) w.all w.U1 w.c.X5 k0 = k0 (w.z7 (DG.drop i)).G1 (w.z7 (DG.drop i)).next (w.z7 (DG.drop i)).bad (S0 (w.z7 (DG.drop i)).rs) (w.z7 (DG.drop i)).all (w.z7 (DG.drop i)).U1 (w.z7 (DG.drop i)).c.X5 := by
 intro n
 induction n with
 | zero => intro i m w h h1 h2 h3; omega
 | succ n ih =>
  intro i m w h h1 h2 h3
  unfold AU
  by_cases hi : i < 3
  ·have hl : i < DG.length := hi
   rw [N2 (show (i : Int) < 3 by omega), cond_true, D4 hl, cond_true, Int.toNat_natCast, W5 (by omega)]
   have hd : DG.drop i = elem i DG :: DG.drop (i + 1) := by
    rw [List.drop_eq_getElem_cons hl]; unfold elem; rw [List.getD_eq_getElem?_getD, List.getElem?_eq_getElem hl]; rfl
   have := GR (R := R) hf (by omega) w h [D.int (cell 0 (elem i DG)).toInt, D.int (cell 1 (elem i DG)).toInt, D.int (cell 2 (elem i DG)).toInt] (fun b x bd r l y t => AU fu 3 DG n ((i + 1 : Nat) : Int) b x bd r l y t k0) _ _ _ _ _ (fun _ _ _ _ _ => rfl) (fun _ _ _ _ => rfl) (fun _ _ _ _ => rfl) (fun _ _ _ => rfl) (fun _ _ _ _ _ => rfl)
   refine this.trans ?_
   rw [hd]
   exact ih (i + 1) (m + 1) (w.jZ (elem i DG)) (M0.Fo h _ _ _) (by omega) (by omega) (by omega)
  ·rw [W1 (show ¬ (i : Int) < 3 by omega), cond_false, List.drop_eq_nil_of_le (show DG.length <= i by show 3 <= i; omega)]
   rfl
def AO : List D := [D.int 2, D.int 0, D.int 0]
theorem To {fu : Nat} (hf : 1001 <= fu) (k0 : List (List D) -> Int -> Bool -> List (List D) -> List (List D) -> List (List D) -> List (D × List D) -> Option R) : ∀ (n i m : Nat) (w : M0), w.Inv m -> m + 9 <= 900 + i -> 10 <= i + n -> i <= 9 ->
  AT fu n (i : Int) w.G1 w.next w.bad (S0 w.rs) w.all w.U1 w.c.X5 k0 = k0 (w.z7 (List.replicate (9 - i) AO)).G1 (w.z7 (List.replicate (9 - i) AO)).next (w.z7 (List.replicate (9 - i) AO)).bad (S0 (w.z7 (List.replicate (9 - i) AO)).rs) (w.z7 (List.replicate (9 - i) AO)).all (w.z7 (List.replicate (9 - i) AO)).U1 (w.z7 (List.replicate (9 - i) AO)).c.X5 := by
 intro n
 induction n with
 | zero => intro i m w h h1 h2 h3; omega
 | succ n ih =>
  intro i m w h h1 h2 h3
  unfold AT
  by_cases hi : i < 9
  ·rw [N2 (show (i : Int) < 9 by omega), cond_true, W5 (by omega)]
   have hd : List.replicate (9 - i) AO = AO :: List.replicate (9 - (i + 1)) AO := by
    rw [show 9 - i = (9 - (i + 1)) + 1 by omega, List.replicate_succ]
   have := GR (R := R) hf (by omega) w h AO (fun b x bd r l y t => AT fu n ((i + 1 : Nat) : Int) b x bd r l y t k0) _ _ _ _ _ (fun _ _ _ _ _ => rfl) (fun _ _ _ _ => rfl) (fun _ _ _ _ => rfl) (fun _ _ _ => rfl) (fun _ _ _ _ _ => rfl)
   refine this.trans ?_
   rw [hd]
   exact ih (i + 1) (m + 1) (w.jZ AO) (M0.Fo h _ _ _) (by omega) (by omega) (by omega)
  ·rw [W1 (show ¬ (i : Int) < 9 by omega), cond_false, show 9 - i = 0 by omega]
   rfl
def aw : M0 := ((M0.begin 2).z7 DG).z7 (List.replicate 9 AO)
theorem rp : aw.bad = false /\ (G0 aw.rs 0).E0 = 1 /\ (G0 aw.rs 1).E0 = 1 /\ (G0 aw.rs 0).head = true /\ (G0 aw.rs 1).tail = true /\ (G0 aw.rs 2).live = false := by decide +kernel
theorem nK : aw.Inv 12 := Ft _ _ _ (Ft _ _ _ (CB 2 (by omega)))
theorem iK {fu : Nat} (r : L1) (k : Option R) : F21 fu r.id r.ep r.mem r.join r.row r.live r.E0 r.told r.P0 r.base r.heard r.need k = k := by
 rw [fP]; rfl
theorem Tn {fu : Nat} (hf : 1001 <= fu) (k : Bool -> Option R) : F10 fu k = k true := by
 rw [fa]
 unfold oJ
 refine (Tk (R := R) hf 2 (by omega) (by omega) _ _).trans ?_
 refine (Tp (R := R) hf _ fu 0 0 (M0.begin 2) (CB 2 (by omega)) (by omega) (by omega) (by omega)).trans ?_
 refine (To (R := R) hf _ fu 0 3 ((M0.begin 2).z7 DG) (Ft _ _ _ (CB 2 (by omega))) (by omega) (by omega) (by omega)).trans ?_
 have xp : ((M0.begin 2).z7 DG).z7 (List.replicate (9 - 0) AO) = aw := rfl
 rw [xp]
 have hi := nK
 obtain ⟨a1, a2, a3, a4, a5, a6⟩ := rp
 have h5 := hi.Y7
 generalize aw = w at *
 have h0 : 0 < w.rs.length := by omega
 have h1 : 1 < w.rs.length := by omega
 have h2 : 2 < w.rs.length := by omega
 have m0 := (hi.ok _ (C9 h0)).mem
 have m1 := (hi.ok _ (C9 h1)).mem
 have w0 : within 0 (S0 w.rs).length = true := A7 (by omega) (by rw [G6]; omega)
 have w1 : within 1 (S0 w.rs).length = true := A7 (by omega) (by rw [G6]; omega)
 have w2 : within 2 (S0 w.rs).length = true := A7 (by omega) (by rw [G6]; omega)
 simp only [a1, Bool.not_false, cond_true, w0, w1, w2, R7, S7, H6 h0, H6 h1, H6 h2, c0, c1, c2, c3, c4, c5, c6, c7, c8, c9, c10, c11, Jd, iK, L8 h0, L8 h1, L8 h2, Lb (R := R) (r := G0 w.rs 0) hf (show (G0 w.rs 0).mem.length <= 1000 by omega), LM (R := R) (r := G0 w.rs 1) hf (show (G0 w.rs 1).mem.length <= 1000 by omega)]
 simp only [a2, a3, a4, a5, a6, decide_true, cond_true, Bool.not_false]
end Go.Proofs.Ythlbahcggmbfaaa.V
namespace Go.Proofs.Ythlbahcggmbfaaa.V
structure G2 (α : Type) where
 n : Nat
 mem : Nat -> List Nat
 jn : Nat -> Bool
 ep : Nat -> Nat
 H : Nat -> Nat -> List α
 A : Nat -> Nat -> Prop
namespace G2
variable {α : Type}
def full (s : G2 α) (e x : Nat) : Prop := x ∈ s.mem e /\ (s.jn e = true -> (s.mem e).getLast? ≠ some x)
structure Inv (s : G2 α) : Prop where
 nd : ∀ e, (s.mem e).Nodup
 out : ∀ e, s.n < e -> s.mem e = []
 JO : s.mem 0 = []
 Lg : ∀ x, s.ep x <= s.n
 Kv : ∀ e x y, 1 <= e -> [x, y].Sublist (s.mem (e + 1)) -> y ∈ s.mem e -> [x, y].Sublist (s.mem e)
 JD : ∀ e x, 1 <= e -> x ∈ s.mem (e + 1) -> (s.mem (e + 1)).getLast? ≠ some x -> s.full e x
 jw : ∀ e x, 1 <= e -> s.jn (e + 1) = true -> (s.mem (e + 1)).getLast? = some x -> ¬ s.full e x
 F : ∀ e x, 1 <= e -> s.full (e + 1) x -> s.full e x \/ (s.A x (e + 1) /\ ∃ p, s.full e p /\ e + 1 <= s.ep p /\ s.H p e <+: s.H x (e + 1))
 M : ∀ e x, 1 <= e -> s.full e x -> s.full (e + 1) x -> s.H x e <+: s.H x (e + 1)
 S : ∀ e x, ¬ s.A x (e + 1) -> s.H x (e + 1) = s.H x e
 H0 : ∀ x, s.H x 0 = []
 T : ∀ e x, s.ep x <= e -> s.H x e = s.H x (s.ep x)
 A1 : ∀ e x, s.A x e -> e <= s.ep x /\ 1 <= e
 A2 : ∀ x, 1 <= s.ep x -> s.A x (s.ep x)
 C : ∀ e x y, s.A y e -> [x, y].Sublist (s.mem e) -> s.H y e <+: s.H x e
theorem EM {l : List Nat} (hn : l.Nodup) {x y : Nat} (h : [x, y].Sublist l) : l.getLast? ≠ some x := by
 intro hl
 obtain ⟨ys, rfl⟩ := List.getLast?_eq_some_iff.1 hl
 rw [List.nodup_append] at hn
 have h2 := List.sublist_append_iff.1 h
 obtain ⟨l1, l2, e, h3, h4⟩ := h2
 have hx : x ∉ ys := fun hx => (hn.2.2 x hx x (by simp)) rfl
 cases l1 with
 | nil =>
  rw [List.nil_append] at e; subst e
  have := h4.length_le
  simp at this
 | cons a l1 =>
  injection e with e1 e2
  subst e1
  exact hx (h3.subset (List.mem_cons_self ..))
theorem By {s : G2 α} (h : s.Inv) {e x y : Nat} (hp : [x, y].Sublist (s.mem e)) : s.full e x :=
 ⟨hp.subset (by simp), fun _ => EM (h.nd e) hp⟩
theorem QW {l : List Nat} (hn : l.Nodup) {x y : Nat} (h : [x, y].Sublist l) : x ≠ y := by
 have := hn.sublist h
 simp at this
 exact this
theorem Inv.D {s : G2 α} (h : s.Inv) : ∀ (e x y : Nat), s.full e y -> [x, y].Sublist (s.mem e) -> s.H y e <+: s.H x e := by
 intro e
 induction e with
 | zero => intro x y hy _; rw [full, h.JO] at hy; cases hy.1
 | succ e ih =>
  intro x y hy hp
  by_cases ha : s.A y (e + 1)
  ·exact h.C _ _ _ ha hp
  ·rw [h.S e y ha]
   by_cases he : e = 0
   ·subst he; rw [h.H0]; exact List.nil_prefix
   ·have hf : s.full e y := by
     rcases h.F e y (by omega) hy with h1 | ⟨h1, _⟩
     ·exact h1
     ·exact absurd h1 ha
    have oX := h.Kv e x y (by omega) hp hf.1
    exact (ih x y hf oX).trans (h.M e x (by omega) (By h oX) (By h hp))
theorem Inv.up {s : G2 α} (h : s.Inv) {e x : Nat} (he : 1 <= e) (hn : ¬ s.full e x) : ∀ e', e < e' -> s.full e' x -> e < s.ep x := by
 intro e'
 induction e' with
 | zero => intro h1; omega
 | succ k ih =>
  intro h1 h2
  rcases h.F k x (by omega) h2 with h3 | ⟨h3, _⟩
  ·by_cases hk : k = e
   ·subst hk; exact absurd h3 hn
   ·exact ih (by omega) h3
  ·have := (h.A1 _ _ h3).1; omega
def EX (s : G2 α) (e : Nat) (l : List α) : Prop := ∃ t, (s.mem e).getLast? = some t /\ s.A t e /\ l <+: s.H t e
def comm (s : G2 α) (l : List α) : Prop := l = [] \/ ∃ e, s.EX e l
theorem QV {l : List Nat} {x t : Nat} (hx : x ∈ l) (ht : l.getLast? = some t) (Y3 : x ≠ t) : [x, t].Sublist l := by
 obtain ⟨ys, rfl⟩ := List.getLast?_eq_some_iff.1 ht
 have : x ∈ ys := by
  rcases List.mem_append.1 hx with h1 | h1
  ·exact h1
  ·simp at h1; exact absurd h1 Y3
 have h2 : [x].Sublist ys := List.singleton_sublist.2 this
 exact h2.append (List.Sublist.refl [t])
theorem Inv.G {s : G2 α} (h : s.Inv) {e : Nat} {l : List α} (hc : s.EX e l) : ∀ e' x, e <= e' -> s.full e' x -> l <+: s.H x e' := by
 obtain ⟨t, h1, h2, h3⟩ := hc
 have he := (h.A1 _ _ h2).2
 intro e'
 induction e' with
 | zero => intro x h4; omega
 | succ k ih =>
  intro x h4 hf
  by_cases hk : e = k + 1
  ·subst hk
   by_cases hx : x = t
   ·subst hx; exact h3
   ·exact h3.trans (h.C _ _ _ h2 (QV hf.1 h1 hx))
  ·rcases h.F k x (by omega) hf with h5 | ⟨_, p, h6, _, h7⟩
   ·exact (ih x (by omega) h5).trans (h.M k x (by omega) h5 hf)
   ·exact (ih p (by omega) h6).trans h7
theorem Inv.safe {s : G2 α} (h : s.Inv) {l : List α} (hc : s.comm l) {x : Nat} (hf : s.full s.n x) : l <+: s.H x (s.ep x) := by
 rcases hc with rfl | ⟨e, hc⟩
 ·exact List.nil_prefix
 ·have sc : e <= s.n := by
   obtain ⟨t, h1, _⟩ := hc
   apply Nat.le_of_not_lt
   intro R3
   rw [h.out e R3] at h1; cases h1
  have := h.G hc s.n x sc hf
  rw [h.T s.n x (h.Lg x)] at this
  exact this
structure Le (s s' : G2 α) : Prop where
 n : s.n <= s'.n
 mem : ∀ e, e <= s.n -> s'.mem e = s.mem e
 jn : ∀ e, e <= s.n -> s'.jn e = true -> s.jn e = true
 A : ∀ x e, s.A x e -> s'.A x e
 H : ∀ x e, s.A x e -> s.H x e <+: s'.H x e
 old : ∀ x e, s.A x (e + 1) -> s'.H x e = s.H x e
theorem Le.refl (s : G2 α) : Le s s := ⟨Nat.le_refl _, fun _ _ => rfl, fun _ _ h => h, fun _ _ h => h, fun _ _ _ => List.prefix_refl _, fun _ _ _ => rfl⟩
theorem nI {s s' : G2 α} (h : s.Inv) (hl : Le s s') {e : Nat} {l : List α} (hc : s.EX e l) : s'.EX e l := by
 obtain ⟨t, h1, h2, h3⟩ := hc
 have sc : e <= s.n := by
  apply Nat.le_of_not_lt
  intro R3
  rw [h.out e R3] at h1; cases h1
 exact ⟨t, by rw [hl.mem e sc]; exact h1, hl.A _ _ h2, h3.trans (hl.H _ _ h2)⟩
theorem BG {s s' : G2 α} (h : s.Inv) (hl : Le s s') {l : List α} (hc : s.comm l) : s'.comm l := by
 rcases hc with h1 | ⟨e, h1⟩
 ·exact .inl h1
 ·exact .inr ⟨e, nI h hl h1⟩
def add (s : G2 α) (x : Nat) (c : α) : G2 α := { s with H := fun y e => if y = x /\ s.ep x <= e then s.H x (s.ep x) ++ [c] else s.H y e }
theorem DL (s : G2 α) (x : Nat) (c : α) {e : Nat} (h : s.ep x <= e) : (s.add x c).H x e = s.H x (s.ep x) ++ [c] := if_pos ⟨rfl, h⟩
theorem P9 (s : G2 α) (x : Nat) (c : α) {y e : Nat} (h : ¬ (y = x /\ s.ep x <= e)) : (s.add x c).H y e = s.H y e := if_neg h
theorem RS {s : G2 α} (h : s.Inv) (x : Nat) (c : α) (y e : Nat) : s.H y e <+: (s.add x c).H y e := by
 by_cases q : y = x /\ s.ep x <= e
 ·obtain ⟨rfl, q2⟩ := q
  rw [DL s y c q2, h.T e y q2]
  exact List.prefix_append ..
 ·rw [P9 s x c q]; exact List.prefix_refl _
theorem Vz {s : G2 α} (h : s.Inv) (x : Nat) (c : α) : Le s (s.add x c) :=
 ⟨Nat.le_refl _, fun _ _ => rfl, fun _ _ h => h, fun _ _ h => h, fun y e _ => RS h x c y e, fun y e ha => P9 s x c (fun q => by
  obtain ⟨rfl, q2⟩ := q
  have := (h.A1 _ _ ha).1
  omega)⟩
theorem jR {s : G2 α} (h : s.Inv) (x : Nat) (c : α) (he : 1 <= s.ep x) (hc : ∀ z, [z, x].Sublist (s.mem (s.ep x)) -> s.H x (s.ep x) ++ [c] <+: s.H z (s.ep x)) : (s.add x c).Inv where
 nd := h.nd
 out := h.out
 JO := h.JO
 Lg := h.Lg
 Kv := h.Kv
 JD := h.JD
 jw := h.jw
 F := fun e y h1 h2 => by
  rcases h.F e y h1 h2 with h3 | ⟨h3, p, h4, h5, h6⟩
  ·exact .inl h3
  ·refine .inr ⟨h3, p, h4, h5, ?_⟩
   rw [P9 s x c (fun q => by obtain ⟨rfl, q2⟩ := q; omega)]
   exact h6.trans (RS h x c y _)
 M := fun e y h1 h2 h3 => by
  by_cases q : y = x /\ s.ep x <= e
  ·obtain ⟨rfl, q2⟩ := q
   rw [DL s y c q2, DL s y c (by omega)]
   exact List.prefix_refl _
  ·rw [P9 s x c q]
   exact (h.M e y h1 h2 h3).trans (RS h x c y _)
 S := fun e y ha => by
  have ha : ¬ s.A y (e + 1) := ha
  by_cases q : y = x /\ s.ep x <= e + 1
  ·obtain ⟨rfl, q2⟩ := q
   have Y3 : s.ep y ≠ e + 1 := fun hh => ha (hh ▸ h.A2 y he)
   rw [DL s y c q2, DL s y c (by omega)]
  ·rw [P9 s x c q, P9 s x c (fun q2 => q ⟨q2.1, by omega⟩)]
   exact h.S e y ha
 H0 := fun y => by rw [P9 s x c (fun q => by obtain ⟨rfl, q2⟩ := q; omega)]; exact h.H0 y
 T := fun e y h1 => by
  have h1 : s.ep y <= e := h1
  by_cases q : y = x
  ·subst q; rw [DL s y c h1]; exact (DL s y c (Nat.le_refl _)).symm
  ·rw [P9 s x c (fun q2 => q q2.1)]
   exact (h.T e y h1).trans (P9 s x c (fun q2 => q q2.1)).symm
 A1 := h.A1
 A2 := h.A2
 C := fun e z y ha hp => by
  have hp : [z, y].Sublist (s.mem e) := hp
  have wu := QW (h.nd e) hp
  by_cases q : y = x /\ s.ep x <= e
  ·obtain ⟨rfl, q2⟩ := q
   have h1 := (h.A1 _ _ ha).1
   have h2 : e = s.ep y := by omega
   subst h2
   rw [DL s y c (Nat.le_refl _), P9 s y c (fun q => wu q.1)]
   exact hc z hp
  ·rw [P9 s x c q]
   exact (h.C e z y ha hp).trans (RS h x c z e)
def HX (s : G2 α) (x e : Nat) : G2 α := { s with ep := fun y => if y = x then e else s.ep y, A := fun y k => s.A y k \/ (y = x /\ k = e) }
theorem w9 (s : G2 α) (x e : Nat) : (s.HX x e).ep x = e := if_pos rfl
theorem Bo (s : G2 α) (x e : Nat) {y : Nat} (h : y ≠ x) : (s.HX x e).ep y = s.ep y := if_neg h
theorem Ld (s : G2 α) {x e : Nat} (h : s.ep x < e) (y : Nat) : s.ep y <= (s.HX x e).ep y := by
 by_cases q : y = x
 ·subst q; rw [w9]; omega
 ·rw [Bo s x e q]; exact Nat.le_refl _
theorem iv (s : G2 α) (x e : Nat) : Le s (s.HX x e) :=
 ⟨Nat.le_refl _, fun _ _ => rfl, fun _ _ h => h, fun _ _ h => .inl h, fun _ _ _ => List.prefix_refl _, fun _ _ _ => rfl⟩
theorem cg {s : G2 α} (h : s.Inv) (x e : Nat) (h1 : s.ep x < e) (h2 : e <= s.n) (hf : x ∈ s.mem e -> s.full e x) : (s.HX x e).Inv where
 nd := h.nd
 out := h.out
 JO := h.JO
 Lg := fun y => by
  by_cases q : y = x
  ·subst q; rw [w9]; exact h2
  ·rw [Bo s x e q]; exact h.Lg y
 Kv := h.Kv
 JD := h.JD
 jw := h.jw
 F := fun k y h3 h4 => by
  rcases h.F k y h3 h4 with h5 | ⟨h5, p, h6, h7, h8⟩
  ·exact .inl h5
  ·exact .inr ⟨.inl h5, p, h6, Nat.le_trans h7 (Ld s h1 p), h8⟩
 M := h.M
 S := fun k y ha => h.S k y (fun q => ha (.inl q))
 H0 := h.H0
 T := fun k y h3 => by
  show s.H y k = s.H y _
  by_cases q : y = x
  ·subst q
   rw [w9] at h3 ⊢
   rw [h.T k y (by omega), h.T e y (by omega)]
  ·rw [Bo s x e q] at h3 ⊢
   exact h.T k y h3
 A1 := fun k y ha => by
  rcases ha with ha | ⟨rfl, rfl⟩
  ·exact ⟨Nat.le_trans (h.A1 k y ha).1 (Ld s h1 y), (h.A1 k y ha).2⟩
  ·rw [w9]; exact ⟨Nat.le_refl _, by omega⟩
 A2 := fun y h3 => by
  by_cases q : y = x
  ·subst q; rw [w9]; exact .inr ⟨rfl, rfl⟩
  ·rw [Bo s x e q] at h3 ⊢
   exact .inl (h.A2 y h3)
 C := fun k z y ha hp => by
  rcases ha with ha | ⟨rfl, rfl⟩
  ·exact h.C k z y ha hp
  ·exact h.D k z y (hf (hp.subset (by simp))) hp
def fresh (s : G2 α) (x e : Nat) : G2 α := { s.HX x e with H := fun y k => if y = x /\ e <= k then [] else s.H y k }
theorem CZ (s : G2 α) (x : Nat) {e k : Nat} (h : e <= k) : (s.fresh x e).H x k = [] := if_pos ⟨rfl, h⟩
theorem X6 (s : G2 α) (x e : Nat) {y k : Nat} (h : ¬ (y = x /\ e <= k)) : (s.fresh x e).H y k = s.H y k := if_neg h
theorem cr {s : G2 α} (h : s.Inv) (x e : Nat) (h1 : s.ep x < e) : Le s (s.fresh x e) :=
 ⟨Nat.le_refl _, fun _ _ => rfl, fun _ _ h => h, fun _ _ h => .inl h, fun y k ha => by
  rw [X6 s x e (fun q => by obtain ⟨rfl, q2⟩ := q; have := (h.A1 _ _ ha).1; omega)]
  exact List.prefix_refl _, fun y k ha => X6 s x e (fun q => by
   obtain ⟨rfl, q2⟩ := q
   have := (h.A1 _ _ ha).1
   omega)⟩
theorem Yw {s : G2 α} (h : s.Inv) (x e : Nat) (h1 : s.ep x < e) (h2 : e <= s.n) (hf : ¬ s.full e x) : (s.fresh x e).Inv := by
 have BF : ∀ k, s.full k x -> k < e := fun k hk => by
  apply Nat.lt_of_not_le
  intro hle
  by_cases q : k = e
  ·subst q; exact hf hk
  ·have := h.up (by omega) hf k (by omega) hk; omega
 have ff : ∀ k y, (s.fresh x e).full k y = s.full k y := fun _ _ => rfl
 exact {
  nd := h.nd
  out := h.out
  JO := h.JO
  Lg := fun y => by
   show (s.HX x e).ep y <= s.n
   by_cases q : y = x
   ·subst q; rw [w9]; exact h2
   ·rw [Bo s x e q]; exact h.Lg y
  Kv := h.Kv
  JD := h.JD
  jw := h.jw
  F := fun k y h3 h4 => by
   rcases h.F k y h3 h4 with h5 | ⟨h5, p, h6, h7, h8⟩
   ·exact .inl h5
   ·refine .inr ⟨.inl h5, p, h6, Nat.le_trans h7 (Ld s h1 p), ?_⟩
    rw [X6 s x e (fun q => by obtain ⟨rfl, q2⟩ := q; have := BF k h6; omega), X6 s x e (fun q => by obtain ⟨rfl, q2⟩ := q; have := BF _ h4; omega)]
    exact h8
  M := fun k y h3 h4 h5 => by
   rw [X6 s x e (fun q => by obtain ⟨rfl, q2⟩ := q; have := BF k h4; omega), X6 s x e (fun q => by obtain ⟨rfl, q2⟩ := q; have := BF _ h5; omega)]
   exact h.M k y h3 h4 h5
  S := fun k y ha => by
   have kG : ¬ s.A y (k + 1) := fun q => ha (.inl q)
   by_cases q : y = x /\ e <= k + 1
   ·obtain ⟨rfl, q2⟩ := q
    have Y3 : k + 1 ≠ e := fun hh => ha (.inr ⟨rfl, hh⟩)
    rw [CZ s y q2, CZ s y (by omega)]
   ·rw [X6 s x e q, X6 s x e (fun q2 => q ⟨q2.1, by omega⟩)]
    exact h.S k y kG
  H0 := fun y => by rw [X6 s x e (fun q => by omega)]; exact h.H0 y
  T := fun k y h3 => by
   have h3 : (s.HX x e).ep y <= k := h3
   show (s.fresh x e).H y k = (s.fresh x e).H y ((s.HX x e).ep y)
   by_cases q : y = x
   ·subst q
    rw [w9] at h3 ⊢
    rw [CZ s y h3, CZ s y (Nat.le_refl _)]
   ·rw [Bo s x e q] at h3 ⊢
    rw [X6 s x e (fun q2 => q q2.1), X6 s x e (fun q2 => q q2.1)]
    exact h.T k y h3
  A1 := fun k y ha => by
   show k <= (s.HX x e).ep y /\ 1 <= k
   rcases ha with ha | ⟨rfl, rfl⟩
   ·exact ⟨Nat.le_trans (h.A1 k y ha).1 (Ld s h1 y), (h.A1 k y ha).2⟩
   ·rw [w9]; exact ⟨Nat.le_refl _, by omega⟩
  A2 := fun y h3 => by
   have h3 : 1 <= (s.HX x e).ep y := h3
   show s.A y ((s.HX x e).ep y) \/ (y = x /\ (s.HX x e).ep y = e)
   by_cases q : y = x
   ·subst q; rw [w9]; exact .inr ⟨rfl, rfl⟩
   ·rw [Bo s x e q] at h3 ⊢
    exact .inl (h.A2 y h3)
  C := fun k z y ha hp => by
   have hz : (s.fresh x e).H z k = s.H z k := X6 s x e (fun q => by
    obtain ⟨rfl, q2⟩ := q
    have := BF k (By h hp); omega)
   rw [hz]
   rcases ha with ha | ⟨rfl, rfl⟩
   ·rw [X6 s x e (fun q => by obtain ⟨rfl, q2⟩ := q; have := (h.A1 _ _ ha).1; omega)]
    exact h.C k z y ha hp
   ·rw [CZ s y (Nat.le_refl _)]; exact List.nil_prefix }
def next (s : G2 α) (m : List Nat) (j : Bool) : G2 α := { s with n := s.n + 1, mem := fun e => if e = s.n + 1 then m else s.mem e, jn := fun e => if e = s.n + 1 then j else s.jn e }
theorem K5 (s : G2 α) (m : List Nat) (j : Bool) {e : Nat} (h : e ≠ s.n + 1) : (s.next m j).mem e = s.mem e := if_neg h
theorem LX (s : G2 α) (m : List Nat) (j : Bool) {e : Nat} (h : e ≠ s.n + 1) : (s.next m j).jn e = s.jn e := if_neg h
theorem K7 (s : G2 α) (m : List Nat) (j : Bool) : (s.next m j).mem (s.n + 1) = m := if_pos rfl
theorem FW (s : G2 α) (m : List Nat) (j : Bool) : (s.next m j).jn (s.n + 1) = j := if_pos rfl
theorem o6 (s : G2 α) (m : List Nat) (j : Bool) {e : Nat} (h : e ≠ s.n + 1) (x : Nat) : (s.next m j).full e x ↔ s.full e x := by
 unfold full; rw [K5 s m j h, LX s m j h]
theorem iF (s : G2 α) (m : List Nat) (j : Bool) : Le s (s.next m j) :=
 ⟨Nat.le_succ _, fun e he => K5 s m j (by omega), fun e he hj => by rw [LX s m j (by omega)] at hj; exact hj, fun _ _ h => h, fun _ _ _ => List.prefix_refl _, fun _ _ _ => rfl⟩
theorem bZ {s : G2 α} (h : s.Inv) (m : List Nat) (j : Bool) (hn : 1 <= s.n) (nd : m.Nodup)
  (s1 : ∀ x y, [x, y].Sublist m -> y ∈ s.mem s.n -> [x, y].Sublist (s.mem s.n))
  (s2 : ∀ x, x ∈ m -> m.getLast? ≠ some x -> s.full s.n x)
  (s3 : ∀ x, j = true -> m.getLast? = some x -> ¬ s.full s.n x)
  (s4 : ∀ x, j = false -> m.getLast? = some x -> s.full s.n x) : (s.next m j).Inv where
 nd := fun e => by
  by_cases q : e = s.n + 1
  ·subst q; rw [K7]; exact nd
  ·rw [K5 s m j q]; exact h.nd e
 out := fun e he => by
  have he : s.n + 1 < e := he
  rw [K5 s m j (by omega)]; exact h.out e (by omega)
 JO := by rw [K5 s m j (by omega)]; exact h.JO
 Lg := fun x => Nat.le_succ_of_le (h.Lg x)
 Kv := fun e x y he => by
  by_cases q : e = s.n
  ·subst q; rw [K7, K5 s m j (by omega)]; exact s1 x y
  ·by_cases q2 : e = s.n + 1
   ·subst q2; rw [K5 s m j (by omega), h.out _ (by omega)]; intro hh; have := hh.length_le; simp at this
   ·rw [K5 s m j (by omega), K5 s m j q2]; exact h.Kv e x y he
 JD := fun e x he => by
  by_cases q : e = s.n
  ·subst q; rw [K7, o6 s m j (by omega)]; exact s2 x
  ·by_cases q2 : e = s.n + 1
   ·subst q2; rw [K5 s m j (by omega), h.out _ (by omega)]; intro hh; cases hh
   ·rw [K5 s m j (by omega), o6 s m j q2]; exact h.JD e x he
 jw := fun e x he => by
  by_cases q : e = s.n
  ·subst q; rw [K7, FW, o6 s m j (by omega)]; exact s3 x
  ·by_cases q2 : e = s.n + 1
   ·subst q2; rw [K5 s m j (by omega), h.out _ (by omega)]; intro _ hh; cases hh
   ·rw [K5 s m j (by omega), LX s m j (by omega), o6 s m j q2]; exact h.jw e x he
 F := fun e x he hf => by
  by_cases q : e = s.n
  ·subst q
   refine .inl ?_
   rw [o6 s m j (by omega)]
   obtain ⟨f1, f2⟩ := hf
   rw [K7] at f1 f2
   rw [FW] at f2
   by_cases hl : m.getLast? = some x
   ·cases hj : j with
    | true => exact absurd hl (f2 hj)
    | false => exact s4 x hj hl
   ·exact s2 x f1 hl
  ·by_cases q2 : e = s.n + 1
   ·subst q2; rw [full, K5 s m j (by omega), h.out _ (by omega)] at hf; cases hf.1
   ·rw [o6 s m j (by omega)] at hf
    rw [o6 s m j q2]
    rcases h.F e x he hf with h1 | ⟨h1, p, h2, h3⟩
    ·exact .inl h1
    ·exact .inr ⟨h1, p, (o6 s m j q2 p).2 h2, h3⟩
 M := fun e x he h1 h2 => by
  show s.H x e <+: s.H x (e + 1)
  by_cases q : e = s.n
  ·subst q
   rw [h.T (s.n + 1) x (Nat.le_succ_of_le (h.Lg x)), h.T s.n x (h.Lg x)]
   exact List.prefix_refl _
  ·by_cases q2 : e = s.n + 1
   ·subst q2; rw [full, K5 s m j (by omega), h.out _ (by omega)] at h2; cases h2.1
   ·rw [o6 s m j q2] at h1
    rw [o6 s m j (by omega)] at h2
    exact h.M e x he h1 h2
 S := h.S
 H0 := h.H0
 T := h.T
 A1 := h.A1
 A2 := h.A2
 C := fun e x y ha hp => by
  have h1 := (h.A1 e y ha).1
  have h2 := h.Lg y
  rw [K5 s m j (by omega)] at hp
  exact h.C e x y ha hp
def Ni (s : G2 α) : G2 α := { s with jn := fun e => if e = s.n then false else s.jn e }
theorem cx (s : G2 α) : Le s s.Ni := ⟨Nat.le_refl _, fun _ _ => rfl, fun e _ hj => by
 have hj : (if e = s.n then false else s.jn e) = true := hj
 split at hj
 ·cases hj
 ·exact hj, fun _ _ h => h, fun _ _ _ => List.prefix_refl _, fun _ _ _ => rfl⟩
theorem Nh (s : G2 α) {e : Nat} (h : e ≠ s.n) : s.Ni.jn e = s.jn e := if_neg h
theorem Av (s : G2 α) : s.Ni.jn s.n = false := if_pos rfl
theorem j7 (s : G2 α) {e : Nat} (h : e ≠ s.n) (x : Nat) : s.Ni.full e x ↔ s.full e x := by
 unfold full; rw [Nh s h]; exact Iff.rfl
theorem Ng (s : G2 α) {e x : Nat} (h : s.full e x) : s.Ni.full e x := by
 by_cases q : e = s.n
 ·subst q; exact ⟨h.1, fun hj => by rw [Av] at hj; cases hj⟩
 ·exact (j7 s q x).2 h
theorem Yy {s : G2 α} (h : s.Inv) (e0 : Nat) (Qy : 1 <= e0) (hn : s.n = e0 + 1) (x p : Nat) (hj : s.jn s.n = true) (hx : (s.mem s.n).getLast? = some x) (ha : s.A x s.n) (hp : s.full e0 p) (sP : s.n <= s.ep p) (hh : s.H p e0 <+: s.H x s.n) : s.Ni.Inv where
 nd := h.nd
 out := h.out
 JO := h.JO
 Lg := h.Lg
 Kv := h.Kv
 JD := fun e y h1 h2 h3 => Ng s (h.JD e y h1 h2 h3)
 jw := fun e y h1 h2 h3 => by
  by_cases q : e + 1 = s.n
  ·rw [q, Av] at h2; cases h2
  ·rw [Nh s q] at h2
   by_cases q2 : e = s.n
   ·subst q2
    have h3 : (s.mem (s.n + 1)).getLast? = some y := h3
    rw [h.out _ (by omega)] at h3; cases h3
   ·rw [j7 s q2]; exact h.jw e y h1 h2 h3
 F := fun e y h1 h2 => by
  by_cases q : e + 1 = s.n
  ·have he : e = e0 := by omega
   subst he
   by_cases hy : y = x
   ·subst hy
    rw [q]
    exact .inr ⟨ha, p, (j7 s (by omega) p).2 hp, sP, hh⟩
   ·have : s.full (e + 1) y := ⟨h2.1, fun _ hl => by rw [q, hx] at hl; injection hl with hl; exact hy hl.symm⟩
    rcases h.F e y h1 this with h3 | ⟨h3, p2, h4, h5⟩
    ·exact .inl ((j7 s (by omega) y).2 h3)
    ·exact .inr ⟨h3, p2, (j7 s (by omega) p2).2 h4, h5⟩
  ·rw [j7 s q] at h2
   rcases h.F e y h1 h2 with h3 | ⟨h3, p2, h4, h5⟩
   ·exact .inl (Ng s h3)
   ·exact .inr ⟨h3, p2, Ng s h4, h5⟩
 M := fun e y h1 h2 h3 => by
  show s.H y e <+: s.H y (e + 1)
  by_cases q : e = s.n
  ·subst q
   have h3 : y ∈ s.mem (s.n + 1) := h3.1
   rw [h.out _ (by omega)] at h3; cases h3
  ·rw [j7 s q] at h2
   by_cases q2 : e + 1 = s.n
   ·have : s.full (e + 1) y := ⟨h3.1, fun _ hl => by
     rw [q2, hx] at hl; injection hl with hl; subst hl
     exact h.jw e x h1 (by rw [q2]; exact hj) (by rw [q2]; exact hx) h2⟩
    exact h.M e y h1 h2 this
   ·rw [j7 s q2] at h3
    exact h.M e y h1 h2 h3
 S := h.S
 H0 := h.H0
 T := h.T
 A1 := h.A1
 A2 := h.A2
 C := h.C
end G2
end Go.Proofs.Ythlbahcggmbfaaa.V
namespace Go.Proofs.Ythlbahcggmbfaaa.V
def T2 (l : List Nat) : List (List D) := l.map fun k => [D.int (k : Nat)]
theorem A5 (l : List Nat) : (T2 l).length = l.length := by simp [T2]
theorem Y8 {l : List Nat} {i : Nat} (h : i < l.length) : (cell 0 (elem i (T2 l))).toInt = (l[i] : Nat) := by
 unfold elem T2
 rw [List.getD_eq_getElem?_getD, List.getElem?_map, List.getElem?_eq_getElem h]; rfl
theorem Ny (v : Nat) : ∀ (l : List Nat) (i : Nat), (v ∈ l -> ∃ a b, l = a ++ v :: b /\ v ∉ a /\ Rp v (T2 l) i = ((i + a.length : Nat) : Int)) /\ (v ∉ l -> Rp v (T2 l) i = -1)
 | [], i => ⟨fun h => (by cases h), fun _ => rfl⟩
 | x :: l, i => by
  have hc : (cell 0 ([D.int ((x : Nat) : Int)] : List D)).toInt = (x : Int) := of_eq_true (eq_self _)
  obtain ⟨h1, h2⟩ := Ny v l (i + 1)
  have e : T2 (x :: l) = [D.int (x : Nat)] :: T2 l := rfl
  rw [e]
  by_cases hx : v = x
  ·subst hx
   refine ⟨fun _ => ⟨[], l, rfl, (by simp), ?_⟩, fun h => absurd (List.mem_cons_self ..) h⟩
   unfold Rp; rw [hc, if_pos rfl]; rfl
  ·have Y3 : ¬ (v : Int) = (cell 0 ([D.int ((x : Nat) : Int)] : List D)).toInt := by rw [hc]; omega
   have hs : Rp (v : Int) ([D.int (x : Nat)] :: T2 l) i = Rp v (T2 l) (i + 1) := by
    conv => lhs; unfold Rp
    rw [if_neg Y3]
   rw [hs]
   refine ⟨fun h => ?_, fun h => h2 (fun q => h (List.mem_cons_of_mem _ q))⟩
   rcases List.mem_cons.1 h with h3 | h3
   ·exact absurd h3 hx
   ·obtain ⟨a, b, rfl, h4, h5⟩ := h1 h3
    refine ⟨x :: a, b, rfl, ?_, ?_⟩
    ·intro q
     rcases List.mem_cons.1 q with q | q
     ·exact hx q
     ·exact h4 q
    ·rw [h5]; simp only [List.length_cons]; omega
theorem Hj {l : List Nat} {v : Nat} (h : v ∈ l) : ∃ a b, l = a ++ v :: b /\ v ∉ a /\ n7 (T2 l) v = (a.length : Nat) := by
 obtain ⟨a, b, h1, h2, h3⟩ := (Ny v l 0).1 h
 exact ⟨a, b, h1, h2, by unfold n7; rw [h3]; omega⟩
theorem jO {l : List Nat} {v : Nat} (h : v ∉ l) : n7 (T2 l) v = -1 := (Ny v l 0).2 h
theorem DB {l : List Nat} {v : Nat} : 0 <= n7 (T2 l) v ↔ v ∈ l := by
 constructor
 ·intro h
  apply Classical.byContradiction
  intro q
  rw [jO q] at h; omega
 ·intro h
  obtain ⟨a, b, _, _, h3⟩ := Hj h
  rw [h3]; omega
theorem Im {l : List Nat} (hn : l.Nodup) {v : Nat} : (0 < l.length /\ n7 (T2 l) v = (l.length : Int) - 1) ↔ l.getLast? = some v := by
 constructor
 ·intro ⟨h0, h⟩
  have hv : v ∈ l := DB.1 (by omega)
  obtain ⟨a, b, h1, h2, h3⟩ := Hj hv
  subst h1
  rw [h3] at h
  simp only [List.length_append, List.length_cons] at h
  have hb : b = [] := List.length_eq_zero_iff.1 (by omega)
  subst hb
  simp
 ·intro h
  obtain ⟨ys, rfl⟩ := List.getLast?_eq_some_iff.1 h
  have hy : v ∉ ys := by
   intro q
   rw [List.nodup_append] at hn
   exact hn.2.2 v q v (by simp) rfl
  obtain ⟨a, b, h1, h2, h3⟩ := Hj (l := ys ++ [v]) (v := v) (by simp)
  have hl := congrArg List.length h1
  simp only [List.length_append, List.length_cons, List.length_nil] at hl ⊢
  refine ⟨by omega, ?_⟩
  rw [h3]
  have hb : b = [] := by
   rcases List.eq_nil_or_concat b with q | ⟨b', z, q⟩
   ·exact q
   ·exfalso
    subst q
    have e2 : ys ++ [v] = (a ++ v :: b') ++ [z] := by rw [h1]; simp
    obtain ⟨e3, _⟩ := List.append_inj' e2 rfl
    exact hy (by rw [e3]; simp)
  subst hb
  simp only [List.length_nil] at hl
  omega
def m8 (l : List Nat) (x y : Nat) : Prop := ∃ a b, l = a ++ x :: y :: b
theorem Br {l : List Nat} {x y : Nat} (h : m8 l x y) : [x, y].Sublist l := by
 obtain ⟨a, b, rfl⟩ := h
 exact List.Sublist.trans (by simp) (List.sublist_append_right ..)
theorem AR {l : List Nat} {x y : Nat} (h : m8 l x y) : x ∈ l /\ y ∈ l := by
 obtain ⟨a, b, rfl⟩ := h
 simp
theorem ZQ {l : List Nat} (hn : l.Nodup) {x y z : Nat} (h : m8 l x y) (hz : [z, y].Sublist l) : z = x \/ [z, x].Sublist l := by
 obtain ⟨a, b, rfl⟩ := h
 have hy1 : y ∉ a ++ [x] := by
  intro q
  have : (a ++ [x] ++ y :: b).Nodup := by simpa using hn
  rw [List.nodup_append] at this
  exact this.2.2 y q y (by simp) rfl
 have vj : y ∉ b := by
  intro q
  have : (a ++ [x] ++ y :: b).Nodup := by simpa using hn
  rw [List.nodup_append] at this
  exact (List.nodup_cons.1 this.2.1).1 q
 have e : a ++ x :: y :: b = (a ++ [x]) ++ y :: b := by simp
 rw [e] at hz
 obtain ⟨l1, l2, e1, e2, e3⟩ := List.sublist_append_iff.1 hz
 have wx : z ∈ a ++ [x] := by
  cases l1 with
  | nil =>
   rw [List.nil_append] at e1; subst e1
   exfalso
   rcases List.sublist_cons_iff.1 e3 with q | ⟨r, q1, q2⟩
   ·exact vj (q.subset (by simp))
   ·injection q1 with q3 q4
    subst q4
    exact vj (q2.subset (by simp))
  | cons u l1 => injection e1 with q1 q2; subst q1; exact e2.subset (by simp)
 rcases List.mem_append.1 wx with q | q
 ·right
  have : [z, x].Sublist (a ++ [x]) := (List.singleton_sublist.2 q).append (List.Sublist.refl [x])
  rw [e]
  exact this.trans (List.sublist_append_left ..)
 ·left; simpa using q
theorem Dn {l : List Nat} (hn : l.Nodup) {x y : Nat} (h : m8 l x y) : l.getLast? ≠ some x := G2.EM hn (Br h)
theorem Pp {l : List Nat} (hn : l.Nodup) {x y y' : Nat} (h : m8 l x y) (h' : m8 l x y') : y = y' := by
 obtain ⟨a, b, rfl⟩ := h
 obtain ⟨a', b', e⟩ := h'
 have key : ∀ (a a' : List Nat) (b b' : List Nat), (a ++ x :: y :: b).Nodup -> a ++ x :: y :: b = a' ++ x :: y' :: b' -> y = y' := by
  intro a
  induction a with
  | nil =>
   intro a' b b' hn e
   cases a' with
   | nil => simp at e; exact e.1
   | cons z a' =>
    simp only [List.nil_append, List.cons_append, List.cons.injEq] at e hn
    exfalso
    rw [List.nodup_cons] at hn
    apply hn.1
    rw [e.2]; simp
  | cons z a ih =>
   intro a' b b' hn e
   cases a' with
   | nil =>
    simp only [List.nil_append, List.cons_append, List.cons.injEq] at e hn
    exfalso
    rw [List.nodup_cons] at hn
    apply hn.1
    rw [e.1]; simp
   | cons z' a' =>
    simp only [List.cons_append, List.cons.injEq] at e hn
    rw [List.nodup_cons] at hn
    exact ih a' b b' hn.2 e.2
 exact key a a' b b' hn e
theorem Sl {l : List Nat} {v : Nat} (h : ¬ V5 (T2 l) v 1 < 0) : ∃ y, m8 l v y /\ V5 (T2 l) v 1 = (y : Nat) := by
 unfold V5 at h ⊢
 by_cases h1 : n7 (T2 l) v < 0
 ·rw [if_pos h1] at h; omega
 ·rw [if_neg h1] at h ⊢
  obtain ⟨a, b, rfl, h2, h3⟩ := Hj (DB.1 (show 0 <= n7 (T2 l) v by omega))
  rw [h3] at h ⊢
  rw [if_neg (show ¬ ((a.length : Int) + 1 < 0) by omega)] at h ⊢
  rw [A5] at h ⊢
  by_cases h4 : ((a ++ v :: b).length : Int) <= (a.length : Int) + 1
  ·rw [if_pos h4] at h; omega
  ·rw [if_neg h4]
   cases b with
   | nil => simp at h4
   | cons y b =>
    refine ⟨y, ⟨a, b, rfl⟩, ?_⟩
    rw [show ((a.length : Int) + 1).toNat = a.length + 1 by omega, Y8 (by simp)]
    simp
theorem Hg {l : List Nat} {v : Nat} (h : ¬ V5 (T2 l) v (-1) < 0) : ∃ x, m8 l x v /\ V5 (T2 l) v (-1) = (x : Nat) := by
 unfold V5 at h ⊢
 by_cases h1 : n7 (T2 l) v < 0
 ·rw [if_pos h1] at h; omega
 ·rw [if_neg h1] at h ⊢
  obtain ⟨a, b, rfl, h2, h3⟩ := Hj (DB.1 (show 0 <= n7 (T2 l) v by omega))
  rw [h3] at h ⊢
  by_cases h4 : (a.length : Int) + -1 < 0
  ·rw [if_pos h4] at h; omega
  ·rw [if_neg h4] at h ⊢
   rw [A5] at h ⊢
   rw [if_neg (show ¬ ((a ++ v :: b).length : Int) <= (a.length : Int) + -1 by simp only [List.length_append]; omega)]
   rcases List.eq_nil_or_concat a with q | ⟨a', x, q⟩
   ·subst q; simp at h4
   ·rw [List.concat_eq_append] at q
    subst q
    refine ⟨x, ⟨a', b, by simp⟩, ?_⟩
    rw [show (((a' ++ [x]).length : Nat) + -1 : Int).toNat = a'.length by simp only [List.length_append, List.length_cons, List.length_nil]; omega, Y8 (by simp only [List.length_append, List.length_cons]; omega)]
    simp
def rj (k : Nat) : List D := [D.str (O6 k)]
def y9 (nx : Int) (l : List (List D)) : Prop := ∃ ks : List Nat, ks.Pairwise (· < ·) /\ (∀ k ∈ ks, 1 <= k /\ (k : Int) <= nx) /\ l = ks.map rj
theorem Nd (nx : Int) : y9 nx [] := ⟨[], List.Pairwise.nil, fun _ h => (by cases h), rfl⟩
theorem PY {nx vY : Int} {l : List (List D)} (h : y9 nx l) (hn : nx <= vY) : y9 vY l := by
 obtain ⟨ks, h1, h2, h3⟩ := h
 exact ⟨ks, h1, fun k hk => ⟨(h2 k hk).1, by have := (h2 k hk).2; omega⟩, h3⟩
theorem Ki {nx : Int} {l l' : List (List D)} (h : y9 nx l) (hp : l' <+: l) : y9 nx l' := by
 obtain ⟨ks, h1, h2, rfl⟩ := h
 obtain ⟨q, hq⟩ := hp
 have : l' = (ks.take l'.length).map rj := by
  have e := congrArg (List.take l'.length) hq
  rw [List.take_left, <- List.map_take] at e
  exact e
 exact ⟨ks.take l'.length, h1.sublist (List.take_sublist ..), fun k hk => h2 k ((List.take_sublist ..).subset hk), this⟩
theorem Yx {nx : Int} {l : List (List D)} (h : y9 nx l) (h0 : 0 <= nx) : y9 (nx + 1) (l ++ [[D.str (O6 (nx + 1))]]) := by
 obtain ⟨ks, h1, h2, rfl⟩ := h
 refine ⟨ks ++ [(nx + 1).toNat], ?_, ?_, ?_⟩
 ·rw [List.pairwise_append]
  refine ⟨h1, List.pairwise_singleton .., fun a ha b hb => ?_⟩
  rw [List.mem_singleton] at hb; subst hb
  have := (h2 a ha).2
  omega
 ·intro k hk
  rcases List.mem_append.1 hk with q | q
  ·have := h2 k q; omega
  ·rw [List.mem_singleton] at q; subst q; omega
 ·rw [List.map_append]
  congr 1
  show _ = [[D.str (O6 (((nx + 1).toNat : Nat) : Int))]]
  rw [Int.toNat_of_nonneg (by omega)]
theorem cw {nx : Int} {l : List (List D)} (h : y9 nx l) {c : List D} (hc : c ∈ l) : c = [D.str (cell 0 c).toStr] := by
 obtain ⟨ks, _, _, rfl⟩ := h
 obtain ⟨k, _, rfl⟩ := List.mem_map.1 hc
 rfl
abbrev Hs := G2 (List D)
def lJ (s : Hs) (m : List D) : Prop := ∃ x y e : Nat, (cell 1 m).toInt = x /\ (cell 2 m).toInt = y /\ (cell 3 m).toInt = ((e + 1 : Nat) : Int) /\ m8 (s.mem (e + 1)) x y /\ s.A x (e + 1) /\
 ((cell 6 m).toBool = true -> ∃ i : Nat, (cell 4 m).toInt = i /\ (s.H x (e + 1))[i]? = some [D.str (cell 7 m).toStr]) /\ ((s.H x e).length : Int) <= (cell 5 m).toInt /\ (cell 5 m).toInt <= ((s.H x (e + 1)).length : Nat)
def qJ (s : Hs) (m : List D) : Prop := ∃ x y e i : Nat, (cell 1 m).toInt = y /\ (cell 2 m).toInt = x /\ (cell 3 m).toInt = (e : Nat) /\ m8 (s.mem e) x y /\ s.A y e /\
 (cell 4 m).toInt = i /\ i <= (s.H y e).length /\ s.comm ((s.H y e).take i)
def CM (s : Hs) (m : List D) : Prop := ((cell 0 m).toInt = 0 -> lJ s m) /\ ((cell 0 m).toInt = 1 -> qJ s m)
open G2 (Le)
theorem SB {α : Type} {l l' : List α} (h : l <+: l') {i : Nat} (hi : i <= l.length) : l'.take i = l.take i := by
 obtain ⟨q, rfl⟩ := h
 exact List.take_append_of_le_length hi
theorem iz {α : Type} {l l' : List α} (h : l <+: l') {i : Nat} {c : α} (hi : l[i]? = some c) : l'[i]? = some c := by
 obtain ⟨q, rfl⟩ := h
 rw [List.getElem?_append_left (List.getElem?_eq_some_iff.1 hi).1]; exact hi
theorem wX {s : Hs} (h : s.Inv) {x e : Nat} (ha : s.A x e) : e <= s.n /\ 1 <= e := ⟨Nat.le_trans (h.A1 _ _ ha).1 (h.Lg x), (h.A1 _ _ ha).2⟩
theorem ND {s s' : Hs} (h : s.Inv) (hl : Le s s') {m : List D} (hm : CM s m) : CM s' m := by
 refine ⟨fun h0 => ?_, fun h1 => ?_⟩
 ·obtain ⟨x, y, e, a1, a2, a3, a4, a5, a6, a7, a9⟩ := hm.1 h0
  refine ⟨x, y, e, a1, a2, a3, by rw [hl.mem _ (wX h a5).1]; exact a4, hl.A _ _ a5, fun hh => ?_, by rw [hl.old _ _ a5]; exact a7, by have := (hl.H _ _ a5).length_le; omega⟩
  obtain ⟨i, b1, b2⟩ := a6 hh
  exact ⟨i, b1, iz (hl.H _ _ a5) b2⟩
 ·obtain ⟨x, y, e, i, a1, a2, a3, a4, a5, a6, a7, a8⟩ := hm.2 h1
  have hp := hl.H _ _ a5
  refine ⟨x, y, e, i, a1, a2, a3, by rw [hl.mem _ (wX h a5).1]; exact a4, hl.A _ _ a5, a6, Nat.le_trans a7 hp.length_le, ?_⟩
  rw [SB hp a7]
  exact G2.BG h hl a8
structure O3 (s : Hs) (i : Nat) (r : L1) : Prop where
 id : r.id = (i : Nat)
 ep : r.ep = (s.ep i : Nat)
 mem : r.mem = T2 (s.mem (s.ep i))
 row : r.row = s.H i (s.ep i)
 live : r.live = true -> i ∈ s.mem (s.ep i)
 EX : ∃ c : Nat, r.E0 = c /\ c <= r.row.length /\ s.comm (r.row.take c)
 BA : ∃ a : Nat, r.P0 = a /\ a <= r.row.length /\ s.comm (r.row.take a)
 base : r.live = true -> ∀ y e, m8 (s.mem (s.ep i)) i y -> s.ep i = e + 1 -> ((s.H i e).length : Int) <= r.base
 heard : r.live = true -> r.heard = true -> ∃ p e, s.ep i = e + 1 /\ m8 (s.mem (s.ep i)) p i /\ s.A p (s.ep i) /\ ((s.H p e).length : Int) <= r.need
 ac : r.P0 <= r.E0
 Gl : r.live = true -> ∀ y, m8 (s.mem (s.ep i)) i y -> r.P0 <= 0 \/ (s.A y (s.ep i) /\ r.P0 <= ((s.H y (s.ep i)).length : Nat))
 Fq : r.live = true -> r.base <= (r.row.length : Nat)
 De : r.live = true -> r.need <= 0 \/ ∃ p, m8 (s.mem (s.ep i)) p i /\ s.A p (s.ep i) /\ r.need <= ((s.H p (s.ep i)).length : Nat)
 u9 : s.jn (s.ep i) = true -> r.join = true
theorem O3.le {s s' : Hs} (h : s.Inv) (hl : Le s s') {i : Nat} {r : L1} (he : s'.ep i = s.ep i) (hH : ∀ e, s'.H i e = s.H i e) (hr : O3 s i r) : O3 s' i r where
 id := hr.id
 ep := by rw [he]; exact hr.ep
 mem := by rw [he, hl.mem _ (h.Lg i)]; exact hr.mem
 row := by rw [he, hH]; exact hr.row
 live := fun q => by rw [he, hl.mem _ (h.Lg i)]; exact hr.live q
 EX := by obtain ⟨c, a, b, d⟩ := hr.EX; exact ⟨c, a, b, G2.BG h hl d⟩
 BA := by obtain ⟨c, a, b, d⟩ := hr.BA; exact ⟨c, a, b, G2.BG h hl d⟩
 base := fun q y e => by rw [he, hl.mem _ (h.Lg i), hH]; exact hr.base q y e
 heard := fun q1 q2 => by
  obtain ⟨p, e, a, b, c, d⟩ := hr.heard q1 q2
  refine ⟨p, e, by rw [he]; exact a, by rw [he, hl.mem _ (h.Lg i)]; exact b, by rw [he]; exact hl.A _ _ c, ?_⟩
  rw [hl.old p e (by rw [<- a]; exact c)]; exact d
 ac := hr.ac
 Gl := fun q y => by
  rw [he, hl.mem _ (h.Lg i)]
  intro hy
  rcases hr.Gl q y hy with a | ⟨a, b⟩
  ·exact .inl a
  ·exact .inr ⟨hl.A _ _ a, by have := (hl.H _ _ a).length_le; omega⟩
 Fq := hr.Fq
 De := fun q => by
  rw [he, hl.mem _ (h.Lg i)]
  rcases hr.De q with a | ⟨p, a, b, c⟩
  ·exact .inl a
  ·exact .inr ⟨p, a, hl.A _ _ b, by have := (hl.H _ _ b).length_le; omega⟩
 u9 := fun q => by
  rw [he] at q
  exact hr.u9 (hl.jn _ (h.Lg i) q)
section
variable {s : Hs} {i : Nat} {r : L1}
theorem O3.ZA (h : s.Inv) (hr : O3 s i r) (hl : r.live = true) : 1 <= s.ep i /\ s.A i (s.ep i) := by
 have := hr.live hl
 have h1 : 1 <= s.ep i := by
  rcases Nat.eq_zero_or_pos (s.ep i) with q | q
  ·rw [q, h.JO] at this; cases this
  ·exact q
 exact ⟨h1, h.A2 i h1⟩
theorem O3.pass (h : s.Inv) (hr : O3 s i r) (hl : r.live = true) (nx : Int) (hf : y9 nx (s.H i (s.ep i))) (k : Int) (has : Bool) (hk : has = true -> 0 <= k /\ k < r.row.length) : ∀ m ∈ r.pass k has, CM s m := by
 intro m hm
 unfold L1.pass at hm
 by_cases hn : r.next < 0
 ·rw [if_pos hn] at hm; cases hm
 ·rw [if_neg hn, List.mem_singleton] at hm
  have TF : ¬ V5 (T2 (s.mem (s.ep i))) i 1 < 0 := by
   have : r.next = V5 (T2 (s.mem (s.ep i))) i 1 := by unfold L1.next; rw [hr.mem, hr.id]
   rw [<- this]; exact hn
  obtain ⟨y, h1, h2⟩ := Sl TF
  have hy : r.next = (y : Nat) := by unfold L1.next; rw [hr.mem, hr.id]; exact h2
  obtain ⟨p1, p2⟩ := hr.ZA h hl
  obtain ⟨e, he⟩ : ∃ e, s.ep i = e + 1 := ⟨s.ep i - 1, by omega⟩
  refine ⟨fun _ => ⟨i, y, e, ?_, ?_, ?_, by rw [<- he]; exact h1, by rw [<- he]; exact p2, fun hh => ?_, ?_, ?_⟩, fun h1 => ?_⟩
  ·subst hm; exact hr.id
  ·subst hm; exact hy
  ·subst hm; show r.ep = _; rw [hr.ep, he]
  ·have sZ : has = true := by subst hm; exact hh
   obtain ⟨k0, k1⟩ := hk sZ
   refine ⟨k.toNat, ?_, ?_⟩
   ·subst hm; show k = _; omega
   ·have R3 : k.toNat < (s.H i (s.ep i)).length := by rw [<- hr.row]; omega
    rw [<- he, List.getElem?_eq_getElem R3]
    congr 1
    have NT : (s.H i (s.ep i))[k.toNat] ∈ s.H i (s.ep i) := List.getElem_mem R3
    refine (cw hf NT).trans ?_
    subst hm
    show _ = [D.str (if has then (cell 0 (elem k.toNat r.row)).toStr else _)]
    rw [if_pos sZ, hr.row]
    unfold elem
    rw [List.getD_eq_getElem?_getD, List.getElem?_eq_getElem R3]; rfl
  ·subst hm; exact hr.base hl y e h1 he
  ·subst hm; have := hr.Fq hl; rw [hr.row, he] at this; exact this
  ·subst hm; exact absurd (show (0 : Int) = 1 from h1) (by decide)
theorem O3.K6 (h : s.Inv) (hr : O3 s i r) (hl : r.live = true) (nx : Int) (hf : y9 nx (s.H i (s.ep i))) : ∀ (n : Nat) (k : Int) (out : List (List D)), 0 <= k -> (∀ m ∈ out, CM s m) -> ∀ m ∈ r.K6 n k out, CM s m := by
 intro n
 induction n with
 | zero => intro k out _ ho m hm; exact ho m hm
 | succ n ih =>
  intro k out hk ho m hm
  unfold L1.K6 at hm
  by_cases q : k < r.row.length /\ k < r.P0 + 8
  ·rw [if_pos q] at hm
   refine ih (k + 1) _ (by omega) (fun m2 h2 => ?_) m hm
   rcases List.mem_append.1 h2 with h3 | h3
   ·exact ho m2 h3
   ·exact hr.pass h hl nx hf k true (fun _ => ⟨hk, q.1⟩) m2 h3
  ·rw [if_neg q] at hm; exact ho m hm
theorem O3.again (h : s.Inv) (hr : O3 s i r) (nx : Int) (hf : y9 nx (s.H i (s.ep i))) : ∀ m ∈ r.again, CM s m := by
 intro m hm
 unfold L1.again at hm
 cases hl : r.live with
 | false => rw [hl, if_neg (by decide)] at hm; cases hm
 | true =>
  rw [hl, if_pos rfl] at hm
  obtain ⟨a, ha, _⟩ := hr.BA
  split at hm
  ·exact hr.K6 h hl nx hf 9 r.P0 [] (by omega) (fun m2 h2 => by cases h2) m hm
  ·exact hr.pass h hl nx hf _ false (fun q => by cases q) m hm
theorem O3.eH (h : s.Inv) (hr : O3 s i r) (hl : r.live = true) : ∀ m ∈ r.BA, CM s m := by
 intro m hm
 unfold L1.BA at hm
 by_cases hn : r.before < 0
 ·rw [if_pos hn] at hm; cases hm
 ·rw [if_neg hn, List.mem_singleton] at hm
  have hb : r.before = V5 (T2 (s.mem (s.ep i))) i (-1) := by unfold L1.before; rw [hr.mem, hr.id]
  obtain ⟨x, h1, h2⟩ := Hg (by rw [<- hb]; exact hn)
  obtain ⟨p1, p2⟩ := hr.ZA h hl
  obtain ⟨c, c1, c2, c3⟩ := hr.EX
  refine ⟨fun h0 => ?_, fun _ => ⟨x, i, s.ep i, c, ?_, ?_, ?_, h1, p2, ?_, by rw [<- hr.row]; exact c2, by rw [<- hr.row]; exact c3⟩⟩
  ·subst hm; exact absurd (show (1 : Int) = 0 from h0) (by decide)
  ·subst hm; exact hr.id
  ·subst hm; exact hb.trans h2
  ·subst hm; exact hr.ep
  ·subst hm; exact c1
theorem O3.last (h : s.Inv) (hr : O3 s i r) : r.last = true ↔ (s.mem (s.ep i)).getLast? = some i := by
 unfold L1.last
 rw [Bool.and_eq_true, decide_eq_true_iff, decide_eq_true_iff, hr.mem, hr.id, A5]
 exact Im (h.nd _)
theorem O3.tail (h : s.Inv) (hr : O3 s i r) (ht : r.tail = true) : r.live = true /\ (s.mem (s.ep i)).getLast? = some i := by
 unfold L1.tail at ht
 rw [Bool.and_eq_true] at ht
 exact ⟨ht.1, (hr.last h).1 ht.2⟩
theorem O3.all (h : s.Inv) (hr : O3 s i r) (ht : r.tail = true) : s.comm r.row := by
 obtain ⟨h1, h2⟩ := hr.tail h ht
 refine .inr ⟨s.ep i, i, h2, (hr.ZA h h1).2, ?_⟩
 rw [hr.row]; exact List.prefix_refl _
theorem O3.jQ (h : s.Inv) (hr : O3 s i r) (hl : r.live = true) (nx : Int) (cmd : ByteArray) (hf : y9 nx (s.H i (s.ep i) ++ [[D.str cmd]]))
  (hc : ∀ z, [z, i].Sublist (s.mem (s.ep i)) -> s.H i (s.ep i) ++ [[D.str cmd]] <+: s.H z (s.ep i)) :
  (s.add i [D.str cmd]).Inv /\ O3 (s.add i [D.str cmd]) i (r.add cmd).1 /\ ∀ m ∈ (r.add cmd).2, CM (s.add i [D.str cmd]) m := by
 obtain ⟨p1, p2⟩ := hr.ZA h hl
 have hi := G2.jR h i [D.str cmd] p1 hc
 have hle := G2.Vz h i [D.str cmd]
 have Ad : (s.add i [D.str cmd]).H i (s.ep i) = r.row ++ [[D.str cmd]] := by rw [G2.DL s i _ (Nat.le_refl _), hr.row]
 have LA : ∀ e, s.ep i = e + 1 -> ∀ p, (s.add i [D.str cmd]).H p e = s.H p e := fun e he p => G2.P9 s i _ (fun q => by omega)
 have k1 : O3 (s.add i [D.str cmd]) i { r with row := r.row ++ [[D.str cmd]] } := {
  id := hr.id
  ep := hr.ep
  mem := hr.mem
  row := Ad.symm
  live := hr.live
  EX := by
   obtain ⟨c, a, b, d⟩ := hr.EX
   refine ⟨c, a, by simp only [List.length_append]; omega, ?_⟩
   show G2.comm _ ((r.row ++ [[D.str cmd]]).take c)
   rw [List.take_append_of_le_length b]
   exact G2.BG h hle d
  BA := by
   obtain ⟨c, a, b, d⟩ := hr.BA
   refine ⟨c, a, by simp only [List.length_append]; omega, ?_⟩
   show G2.comm _ ((r.row ++ [[D.str cmd]]).take c)
   rw [List.take_append_of_le_length b]
   exact G2.BG h hle d
  base := fun q y e a b => by rw [LA e b]; exact hr.base q y e a b
  heard := fun q1 q2 => by
   obtain ⟨p, e, a, b, c, d⟩ := hr.heard q1 q2
   exact ⟨p, e, a, b, c, by rw [LA e a]; exact d⟩
  ac := hr.ac
  Gl := fun q y hy => by
   rcases hr.Gl q y hy with a | ⟨a, b⟩
   ·exact .inl a
   ·exact .inr ⟨a, by have := (hle.H _ _ a).length_le; show r.P0 <= (((s.add i [D.str cmd]).H y (s.ep i)).length : Nat); omega⟩
  Fq := fun q => by have := hr.Fq q; simp only [List.length_append]; omega
  De := fun q => by
   rcases hr.De q with a | ⟨p, a, b, c⟩
   ·exact .inl a
   ·exact .inr ⟨p, a, b, by have := (hle.H _ _ b).length_le; show r.need <= (((s.add i [D.str cmd]).H p (s.ep i)).length : Nat); omega⟩
  u9 := hr.u9 }
 refine ⟨hi, ?_⟩
 unfold L1.add
 by_cases ht : ({ r with row := r.row ++ [[D.str cmd]] } : L1).tail = true
 ·rw [if_pos ht]
  refine ⟨{ k1 with EX := ⟨(r.row ++ [[D.str cmd]]).length, rfl, Nat.le_refl _, ?_⟩, ac := ?_ }, fun m hm => by cases hm⟩
  rotate_left
  ·obtain ⟨a, a1, a2, _⟩ := hr.BA
   show r.P0 <= ((r.row ++ [[D.str cmd]]).length : Nat)
   rw [List.length_append]; omega
  show G2.comm _ ((r.row ++ [[D.str cmd]]).take _)
  rw [List.take_length]
  exact k1.all hi ht
 ·rw [if_neg ht]
  refine ⟨k1, k1.pass hi hl nx ?_ _ true (fun _ => ?_)⟩
  ·rw [show (s.add i [D.str cmd]).ep i = s.ep i from rfl, Ad, hr.row]; exact hf
  ·show _ /\ _ < ((r.row ++ [[D.str cmd]]).length : Int)
   simp only [List.length_append, List.length_cons, List.length_nil]; omega
end
end Go.Proofs.Ythlbahcggmbfaaa.V
namespace Go.Proofs.Ythlbahcggmbfaaa.V
variable {R : Type}
theorem ko {fu : Nat} (hf : 1001 <= fu) (l : List (List D)) (hll : l.length <= 100000) (k0 : List (List D) -> Int -> Bool -> List (List D) -> List (List D) -> List (List D) -> List (D × List D) -> Option R)
  (L : Nat -> Int -> List (List D) -> Int -> Bool -> List (List D) -> List (List D) -> List (List D) -> List (D × List D) -> Option R)
  (step : ∀ n i a b c d e f g, L (n + 1) i a b c d e f g = bif decide (i < S1 l.length) then bif within i l.length then F13 fu [D.int (cell 0 (elem i.toNat l)).toInt, D.int (cell 1 (elem i.toNat l)).toInt, D.int (cell 2 (elem i.toNat l)).toInt] d e f a b c g (fun u3 N1 J2 B3 A4 => L n (IntKind.i64.wrap (i + 1)) u3 N1 J2 B3 e A4 g) (fun G5 Y5 B9 W8 => L n (IntKind.i64.wrap (i + 1)) G5 b Y5 B9 e W8 g) (fun R9 Q5 H5 I7 => L n (IntKind.i64.wrap (i + 1)) R9 b Q5 H5 e f I7) (fun M6 q8 H7 => L n (IntKind.i64.wrap (i + 1)) M6 b q8 H7 e f g) (fun o9 o4 M9 BS Bm => L n (IntKind.i64.wrap (i + 1)) o9 b o4 M9 Bm f BS) else none else k0 a b c d e f g) :
  ∀ (n i m : Nat) (w : M0), w.Inv m -> m + l.length <= 900 + i -> l.length + 1 <= i + n -> i <= l.length ->
  L n (i : Int) w.G1 w.next w.bad (S0 w.rs) w.all w.U1 w.c.X5 = k0 (w.z7 (l.drop i)).G1 (w.z7 (l.drop i)).next (w.z7 (l.drop i)).bad (S0 (w.z7 (l.drop i)).rs) (w.z7 (l.drop i)).all (w.z7 (l.drop i)).U1 (w.z7 (l.drop i)).c.X5 := by
 intro n
 induction n with
 | zero => intro i m w h h1 h2 h3; omega
 | succ n ih =>
  intro i m w h h1 h2 h3
  rw [step]
  by_cases hi : i < l.length
  ·rw [N2 (show (i : Int) < S1 l.length by unfold S1; omega), cond_true, D4 hi, cond_true, Int.toNat_natCast, W5 (by omega)]
   have hd : l.drop i = elem i l :: l.drop (i + 1) := by
    rw [List.drop_eq_getElem_cons hi]; unfold elem; rw [List.getD_eq_getElem?_getD, List.getElem?_eq_getElem hi]; rfl
   have := GR (R := R) hf (by omega) w h [D.int (cell 0 (elem i l)).toInt, D.int (cell 1 (elem i l)).toInt, D.int (cell 2 (elem i l)).toInt] (fun b x bd r l y t => L n ((i + 1 : Nat) : Int) b x bd r l y t) _ _ _ _ _ (fun _ _ _ _ _ => rfl) (fun _ _ _ _ => rfl) (fun _ _ _ _ => rfl) (fun _ _ _ => rfl) (fun _ _ _ _ _ => rfl)
   refine this.trans ?_
   rw [hd]
   exact ih (i + 1) (m + 1) (w.jZ (elem i l)) (M0.Fo h _ _ _) (by omega) (by omega) (by omega)
  ·rw [W1 (show ¬ (i : Int) < S1 l.length by unfold S1; omega), cond_false, List.drop_eq_nil_of_le (by omega)]
   rfl
def eV (rs : List L1) : Prop := ∀ i < rs.length, (G0 rs i).id = (i : Nat)
theorem R5 {rs : List L1} {k i : Nat} (h : k ≠ i) (q : L1) : G0 (rs.set k q) i = G0 rs i := by
 unfold G0; rw [List.getD_eq_getElem?_getD, List.getD_eq_getElem?_getD, List.getElem?_set_ne h]
theorem eV.set {rs : List L1} (h : eV rs) {k : Nat} {q : L1} (hq : q.id = (k : Nat)) : eV (rs.set k q) := by
 intro i hi
 rw [List.length_set] at hi
 by_cases e : k = i
 ·subst e; rw [s7 hi, hq]
 ·rw [R5 e]; exact h i hi
theorem lI {w : M0} (h5 : w.rs.length = 5) (h : eV w.rs) (kind node at_ : Int) : eV (w.op kind node at_).rs := by
 have hk := Ap node
 have UI := h (E1 node) (by omega)
 have ho : ∀ a b c, eV (w.ordered a b c).rs := fun a b c => by unfold M0.ordered; split <;> exact h
 unfold M0.op
 simp only
 split
 ·exact h.set (by rw [NC]; exact UI)
 ·split
  ·exact h
  ·split
   ·split
    ·show eV (F6 _ _)
     unfold F6
     split
     ·refine h.set ?_
      rw [Bl]
      have := h (C8 (elem (AQ w.U1 at_).toNat w.U1)).toNat (by omega)
      rw [this]
     ·exact h
    ·exact h
   ·split
    ·split <;> exact h
    ·split
     ·exact h.set (by rw [OF]; exact UI)
     ·split
      ·exact h.set rfl
      ·split
       ·exact ho _ _ _
       ·split
        ·exact ho _ _ _
        ·split
         ·split
          ·exact ho _ _ _
          ·exact h
         ·exact h
theorem Tt : ∀ (l : List (List D)) (w : M0) (n : Nat), w.Inv n -> eV w.rs -> eV (w.z7 l).rs
 | [], _, _, _, h => h
 | o :: l, w, n, hi, h => Tt l (w.jZ o) (n + 1) (M0.Fo hi _ _ _) (lI hi.Y7 h _ _ _)
theorem ZK (m : Nat) : eV (M0.begin m).rs := by
 intro i hi
 have h5 : i < 5 := by simpa [M0.begin, Q6] using hi
 show (G0 (Q6 5) i).id = _
 have : i = 0 \/ i = 1 \/ i = 2 \/ i = 3 \/ i = 4 := by omega
 rcases this with rfl | rfl | rfl | rfl | rfl <;> rfl
theorem jN {d : D} (h : Xa (FT.int IntKind.u8) d) : 0 <= d.toInt /\ d.toInt < 256 := by
 cases h with
 | int k n h =>
  unfold Lit.wf at h
  simp [IntKind.min, IntKind.max, IntKind.signed, IntKind.bits] at h
  show 0 <= n /\ n < 256
  omega
theorem Tz.u8 {ds : List D} (h : Tz [FT.int IntKind.u8] ds) : 0 <= (V.cell 0 ds).toInt /\ (V.cell 0 ds).toInt < 256 := jN (h.cell (j := 0) rfl)
theorem wrap_u8 {n : Int} (h0 : 0 <= n) (h1 : n < 256) : IntKind.i64.wrap n = n := j5 (by omega) (by omega)
def HS (n : Int) : Nat := 1 + (n.tmod 4).toNat
theorem Qk {n : Int} (h0 : 0 <= n) : 1 <= HS n /\ HS n <= 4 := by
 unfold HS
 rw [Int.tmod_eq_emod_of_nonneg h0]
 omega
theorem iJ (fu : Nat) {n : Int} (h0 : 0 <= n) (h1 : n < 256) (k : Int -> Option R) : F12 fu n k = k ((HS n : Nat) : Int) := by
 rw [fY]; unfold oH
 rw [wrap_u8 h0 h1]
 unfold HS
 rw [Int.tmod_eq_emod_of_nonneg h0, j5 (by omega) (by omega)]
 congr 1; omega
structure yK (w : M0) (n : Nat) : Prop where
 inv : w.Inv n
 ids : eV w.rs
theorem kp (m : Nat) (hm : m <= 4) (l : List (List D)) : yK ((M0.begin m).z7 l) l.length := by
 have := Ft l (M0.begin m) 0 (CB m hm)
 rw [Nat.zero_add] at this
 exact ⟨this, Tt l (M0.begin m) 0 (CB m hm) (ZK m)⟩
end Go.Proofs.Ythlbahcggmbfaaa.V
