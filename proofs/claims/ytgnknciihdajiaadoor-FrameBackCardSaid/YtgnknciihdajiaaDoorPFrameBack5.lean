/-
  Part 5 of the texts that the law needs, merged: a value-level calculus of the code (HL), the contracts of the functions, and their proofs.
  Conditions: none.
-/
import Derived.Test.YtgnknciihdajiaaDoorPFrameBack4
set_option maxRecDepth 100000
set_option maxHeartbeats 400000
set_option linter.unusedVariables false
set_option linter.unusedSimpArgs false
namespace Go.Proofs.YtgnknciihdajiaaDoor
open Go Go.HL U
def tabFB : List (FuncId × HL.Spec) := [(11, SLight), (12, SAwk), (14, SNew), (19, SFrm), (20, SVec), (21, STo), (36, SFrom), (23, SSb)]
noncomputable def CFB : Ctx := ⟨Tryd.prog, gam tabFB, Tryd.f9.ntmps, [], []⟩
theorem vcFB (l k : List (List Int)) (Q : Res → Prop) : (nfun true CFB Tryd.f9 (bodyOf Tryd.f9) [.ce (.sl false [4] l), .ce (.sl false [4] k)] [] Q) =
    (True ∧ ∀ (x1 : Bool), x1 = decide ((List.length l : Int) ≤ (120 : Int)) → ((!x1) = true → True ∧ ∀ (x2 : Bool), x2 = true → Q ⟨.ce (.bool x2), false, [], []⟩) ∧ ((!x1) = false → True ∧ ∀ (x3 : Bool), x3 = decide ((List.length k : Int) ≤ (120 : Int)) → ((!x3) = true → True ∧ ∀ (x4 : Bool), x4 = true → Q ⟨.ce (.bool x4), false, [], []⟩) ∧ ((!x3) = false → True ∧ ∀ (x5 : List (List Int)), x5 = l → ∀ (x6 : Int), x6 = 0 → inSrc x5 x6 ∧ (∃ (x : FrS × Int), okF x.1 ∧ inSrc x5 x.2) ∧ ∀ (x : FrS × Int), okF x.1 ∧ inSrc x5 x.2 → True ∧ ∀ (x8 : List (List Int)), x8 = k → ∀ (x9 : Int), x9 = 0 → ((0 : Int) ≤ (200000 : Int) ∧ (200000 : Int) ≤ (1000000000000 : Int) ∧ inSrc x8 x9) ∧ (∃ (x : Int × Int × Int × Int), B3 (200000 : Int) x.1 x.snd.1 x.snd.snd.1 ∧ inSrc x8 x.snd.snd.2) ∧ ∀ (x_1 : Int × Int × Int × Int), B3 (200000 : Int) x_1.1 x_1.snd.1 x_1.snd.snd.1 ∧ inSrc x8 x_1.snd.snd.2 → (okO x.1.sy x.1.s0 x.1.s1 x.1.s2 x.1.s3 x.1.s4 x.1.s5 x.1.s6 x.1.s7 x.1.s8 x.1.s9 x.1.s10 x.1.s11 x.1.s12 x.1.s13 x.1.s14 x.1.s15 x.1.s16 x.1.s17 x.1.l0 x.1.l1 x.1.l2 x.1.h0 x.1.h1 x.1.h2 x.1.ln ∧
    okP x.1.tu x.1.pl x.1.an ∧ B3 (1073741824 : Int) x.1.c0 x.1.c1 x.1.c2) ∧ (∃ (x_2 : MapS), x_2 = toF x.1.tu x.1.pl x.1.c0 x.1.c1 x.1.c2 x.1.an (orX x.1.sy x.1.s0 x.1.s3 x.1.s6 x.1.s9 x.1.s12 x.1.s15 x.1.l0 x.1.h0) (orX x.1.sy x.1.s1 x.1.s4 x.1.s7 x.1.s10 x.1.s13 x.1.s16 x.1.l1 x.1.h1) (orZ x.1.sy x.1.s2 x.1.s5 x.1.s8 x.1.s11 x.1.s14 x.1.s17 x.1.l2 x.1.h2 x.1.ln) x_1.1 x_1.snd.1 x_1.snd.snd.1) ∧ ∀ (x_2 : MapS), x_2 = toF x.1.tu x.1.pl x.1.c0 x.1.c1 x.1.c2 x.1.an (orX x.1.sy x.1.s0 x.1.s3 x.1.s6 x.1.s9 x.1.s12 x.1.s15 x.1.l0 x.1.h0) (orX x.1.sy x.1.s1 x.1.s4 x.1.s7 x.1.s10 x.1.s13 x.1.s16 x.1.l1 x.1.h1) (orZ x.1.sy x.1.s2 x.1.s5 x.1.s8 x.1.s11 x.1.s14 x.1.s17 x.1.l2 x.1.h2 x.1.ln) x_1.1 x_1.snd.1 x_1.snd.snd.1 → (okO x.1.sy x.1.s0 x.1.s1 x.1.s2 x.1.s3 x.1.s4 x.1.s5 x.1.s6 x.1.s7 x.1.s8 x.1.s9 x.1.s10 x.1.s11 x.1.s12 x.1.s13 x.1.s14 x.1.s15 x.1.s16 x.1.s17 x.1.l0 x.1.l1 x.1.l2 x.1.h0 x.1.h1 x.1.h2 x.1.ln ∧
    okP x.1.tu x.1.pl x.1.an ∧ B3 (1073741824 : Int) x.1.c0 x.1.c1 x.1.c2) ∧ (∃ (x_3 : MapS), x_3 = fromF x.1.tu x.1.pl x.1.c0 x.1.c1 x.1.c2 x.1.an (orX x.1.sy x.1.s0 x.1.s3 x.1.s6 x.1.s9 x.1.s12 x.1.s15 x.1.l0 x.1.h0) (orX x.1.sy x.1.s1 x.1.s4 x.1.s7 x.1.s10 x.1.s13 x.1.s16 x.1.l1 x.1.h1) (orZ x.1.sy x.1.s2 x.1.s5 x.1.s8 x.1.s11 x.1.s14 x.1.s17 x.1.l2 x.1.h2 x.1.ln) x_2.x x_2.y x_2.z) ∧ ∀ (x_3 : MapS), x_3 = fromF x.1.tu x.1.pl x.1.c0 x.1.c1 x.1.c2 x.1.an (orX x.1.sy x.1.s0 x.1.s3 x.1.s6 x.1.s9 x.1.s12 x.1.s15 x.1.l0 x.1.h0) (orX x.1.sy x.1.s1 x.1.s4 x.1.s7 x.1.s10 x.1.s13 x.1.s16 x.1.l1 x.1.h1) (orZ x.1.sy x.1.s2 x.1.s5 x.1.s8 x.1.s11 x.1.s14 x.1.s17 x.1.l2 x.1.h2 x.1.ln) x_2.x x_2.y x_2.z → True ∧ ∀ (x13 : Bool), x13 = true → ((!x13) = true → Q ⟨.ce (.bool false), false, [], []⟩) ∧ ((!x13) = false → ((x_2.e != 0) = true → Q ⟨.ce (.bool false), false, [], []⟩) ∧ ((x_2.e != 0) = false → ((x_3.e != 0) = true →
    Q ⟨.ce (.bool false), false, [], []⟩) ∧ ((x_3.e != 0) = false → ((!x.1.tu) = true → Q ⟨.ce (.bool (x_3.x == x_1.1 && (x_3.y == x_1.snd.1 && (x_3.z == x_1.snd.snd.1 && true)))), false, [], []⟩) ∧ ((!x.1.tu) = false → (B3 (1152921504606846976 : Int) x_3.x x_3.y x_3.z ∧ B3 (1152921504606846976 : Int) x_1.1 x_1.snd.1 x_1.snd.snd.1) ∧ ∀ (x14 : Int), x14 = x_3.x - x_1.1 → ∀ (x15 : Int), x15 = x_3.y - x_1.snd.1 → ∀ (x16 : Int), x16 = x_3.z - x_1.snd.snd.1 → (-9223372036854775808 ≤ (0 : Int) - x14 ∧ (0 : Int) - x14 ≤ 9223372036854775807) ∧ ∀ (x17 : Int), x17 = 0 - x14 → (-9223372036854775808 ≤ (0 : Int) - x15 ∧ (0 : Int) - x15 ≤ 9223372036854775807) ∧ ∀ (x18 : Int), x18 = 0 - x15 → (-9223372036854775808 ≤ (0 : Int) - x16 ∧ (0 : Int) - x16 ≤ 9223372036854775807) ∧ ∀ (x19 : Int), x19 = 0 - x16 → ∀ (x20 : Int), (x20 = bif true then if x19 > bif true then if x16 > bif true then if x18 > bif true then if x15 > bif true then if x17 > x14 then x17 else x14 else if x17 < x14 then x17 else x14 then x15 else bif true then if x17 > x14 then x17 else x14 else if x17 < x14 then x17 else x14 else if x15 < bif true then if x17 > x14 then x17 else x14 else if x17 < x14 then x17 else x14 then x15 else bif true then if x17 > x14 then x17 else x14 else if x17 < x14 then x17 else x14 then x18 else bif true then if x15 > bif true then if x17 > x14 then x17 else x14 else if x17 < x14 then x17 else x14 then x15 else bif true then if x17 > x14 then x17 else x14 else if x17 < x14 then x17 else x14 else if x15 < bif true then if x17 > x14 then x17 else x14 else if x17 < x14 then x17 else x14 then x15 else bif true then if x17 > x14 then x17 else x14 else if x17 < x14 then x17 else x14 else if x18 < bif true then if x15 > bif true then if x17 > x14 then x17 else x14 else if x17 < x14 then x17 else x14 then x15 else bif true then if x17 > x14 then x17 else x14 else if x17 < x14 then x17 else x14 else if x15 < bif true then if x17 > x14 then x17 else x14 else if x17 < x14 then x17 else x14 then x15 else bif true then if x17 > x14 then x17 else x14 else if x17 < x14 then x17 else x14 then x18 else bif true then if x15 > bif true then if x17 > x14 then x17 else x14 else if x17 < x14 then x17 else x14 then x15 else bif true then if x17 > x14 then x17 else x14 else if x17 < x14 then x17 else x14 else if x15 < bif true then if x17 > x14 then x17 else x14 else if x17 < x14 then x17 else x14 then x15 else bif true then if x17 > x14 then x17 else x14 else if x17 < x14 then x17 else x14 then x16 else bif true then if x18 > bif true then if x15 > bif true then if x17 > x14 then x17 else x14 else if x17 < x14 then x17 else x14 then x15 else bif true then if x17 > x14 then x17 else x14 else if x17 < x14 then x17 else x14 else if x15 < bif true then if x17 > x14 then x17 else x14 else if x17 < x14 then x17 else x14 then x15 else bif true then if x17 > x14 then x17 else x14 else if x17 < x14 then x17 else x14 then x18 else bif true then if x15 > bif true then if x17 > x14 then x17 else x14 else if x17 < x14 then x17 else x14 then x15 else bif true then if x17 > x14 then x17 else x14 else if x17 < x14 then x17 else x14 else if x15 < bif true then if x17 > x14 then x17 else x14 else if x17 < x14 then x17 else x14 then x15 else bif true then if x17 > x14 then x17 else x14 else if x17 < x14 then x17 else x14 else if x18 < bif true then if x15 > bif true then if x17 > x14 then x17 else x14 else if x17 < x14 then x17 else x14 then x15 else bif true then if x17 > x14 then x17 else x14 else if x17 < x14 then x17 else x14 else if x15 < bif true then if x17 > x14 then x17 else x14 else if x17 < x14 then x17 else x14 then x15 else bif true then if x17 > x14 then x17 else x14 else if x17 < x14 then x17 else x14 then x18 else bif true then if x15 > bif true then if x17 > x14 then x17 else x14 else if x17 < x14 then x17 else x14 then x15 else bif true then if x17 > x14 then x17 else x14 else if x17 < x14 then x17 else x14 else if x15 < bif true then if x17 > x14 then x17 else x14 else if x17 < x14 then x17 else x14 then x15 else bif true then if x17 > x14 then x17 else x14 else if x17 < x14 then x17 else x14 else if x16 < bif true then if x18 > bif true then if x15 > bif true then if x17 > x14 then x17 else x14 else if x17 < x14 then x17 else x14 then x15 else bif true then if x17 > x14 then x17 else x14 else if x17 < x14 then x17 else x14 else if x15 < bif true then if x17 > x14 then x17 else x14 else if x17 < x14 then x17 else x14 then x15 else bif true then if x17 > x14 then x17 else x14 else if x17 < x14 then x17 else x14 then x18 else bif true then if x15 > bif true then if x17 > x14 then x17 else x14 else if x17 < x14 then x17 else x14 then x15 else bif true then if x17 > x14 then x17 else x14 else if x17 < x14 then x17 else x14 else if x15 < bif true then if x17 > x14 then x17 else x14 else if x17 < x14 then x17 else x14 then x15 else bif true then if x17 > x14 then x17 else x14 else if x17 < x14 then x17 else x14 else if x18 < bif true then if x15 > bif true then if x17 > x14 then x17 else x14 else if x17 < x14 then x17 else x14 then x15 else bif true then if x17 > x14 then x17 else x14 else if x17 < x14 then x17 else x14 else if x15 < bif true then if x17 > x14 then x17 else x14 else if x17 < x14 then x17 else x14 then x15 else bif true then if x17 > x14 then x17 else x14 else if x17 < x14 then x17 else x14 then x18 else bif true then if x15 > bif true then if x17 > x14 then x17 else x14 else if x17 < x14 then x17 else x14 then x15 else bif true then if x17 > x14 then x17 else x14 else if x17 < x14 then x17 else x14 else if x15 < bif true then if x17 > x14 then x17 else x14 else if x17 < x14 then x17 else x14 then x15 else bif true then if x17 > x14 then x17 else x14 else if x17 < x14 then x17 else x14 then x16 else bif true then if x18 > bif true then if x15 > bif true then if x17 > x14 then x17 else x14 else if x17 < x14 then x17 else x14 then x15 else bif true then if x17 > x14 then x17 else x14 else if x17 < x14 then x17 else x14 else if x15 < bif true then if x17 > x14 then x17 else x14 else if x17 < x14 then x17 else x14 then x15 else bif true then if x17 > x14 then x17 else x14 else if x17 < x14 then x17 else x14 then x18 else bif true then if x15 > bif true then if x17 > x14 then x17 else x14 else if x17 < x14 then x17 else x14 then x15 else bif true then if x17 > x14 then x17 else x14 else if x17 < x14 then x17 else x14 else if x15 < bif true then if x17 > x14 then x17 else x14 else if x17 < x14 then x17 else x14 then x15 else bif true then if x17 > x14 then x17 else x14 else if x17 < x14 then x17 else x14 else if x18 < bif true then if x15 > bif true then if x17 > x14 then x17 else x14 else if x17 < x14 then x17 else x14 then x15 else bif true then if x17 > x14 then x17 else x14 else if x17 < x14 then x17 else x14 else if x15 < bif true then if x17 > x14 then x17 else x14 else if x17 < x14 then x17 else x14 then x15 else bif true then if x17 > x14 then x17 else x14 else if x17 < x14 then x17 else x14 then x18 else bif true then if x15 > bif true then if x17 > x14 then x17 else x14 else if x17 < x14 then x17 else x14 then x15 else bif true then if x17 > x14 then x17 else x14 else if x17 < x14 then x17 else x14 else if x15 < bif true then if x17 > x14 then x17 else x14 else if x17 < x14 then x17 else x14 then x15 else bif true then if x17 > x14 then x17 else x14 else if x17 < x14 then x17 else x14 then x19 else bif true then if x16 > bif true then if x18 > bif true then if x15 > bif true then if x17 > x14 then x17 else x14 else if x17 < x14 then x17 else x14 then x15 else bif true then if x17 > x14 then x17 else x14 else if x17 < x14 then x17 else x14 else if x15 < bif true then if x17 > x14 then x17 else x14 else if x17 < x14 then x17 else x14 then x15 else bif true then if x17 > x14 then x17 else x14 else if x17 < x14 then x17 else x14 then x18 else bif true then if x15 > bif true then if x17 > x14 then x17 else x14 else if x17 < x14 then x17 else x14 then x15 else bif true then if x17 > x14 then x17 else x14 else if x17 < x14 then x17 else x14 else if x15 < bif true then if x17 > x14 then x17 else x14 else if x17 < x14 then x17 else x14 then x15 else bif true then if x17 > x14 then x17 else x14 else if x17 < x14 then x17 else x14 else if x18 < bif true then if x15 > bif true then if x17 > x14 then x17 else x14 else if x17 < x14 then x17 else x14 then x15 else bif true then if x17 > x14 then x17 else x14 else if x17 < x14 then x17 else x14 else if x15 < bif true then if x17 > x14 then x17 else x14 else if x17 < x14 then x17 else x14 then x15 else bif true then if x17 > x14 then x17 else x14 else if x17 < x14 then x17 else x14 then x18 else bif true then if x15 > bif true then if x17 > x14 then x17 else x14 else if x17 < x14 then x17 else x14 then x15 else bif true then if x17 > x14 then x17 else x14 else if x17 < x14 then x17 else x14 else if x15 < bif true then if x17 > x14 then x17 else x14 else if x17 < x14 then x17 else x14 then x15 else bif true then if x17 > x14 then x17 else x14 else if x17 < x14 then x17 else x14 then x16 else bif true then if x18 > bif true then if x15 > bif true then if x17 > x14 then x17 else x14 else if x17 < x14 then x17 else x14 then x15 else bif true then if x17 > x14 then x17 else x14 else if x17 < x14 then x17 else x14 else if x15 < bif true then if x17 > x14 then x17 else x14 else if x17 < x14 then x17 else x14 then x15 else bif true then if x17 > x14 then x17 else x14 else if x17 < x14 then x17 else x14 then x18 else bif true then if x15 > bif true then if x17 > x14 then x17 else x14 else if x17 < x14 then x17 else x14 then x15 else bif true then if x17 > x14 then x17 else x14 else if x17 < x14 then x17 else x14 else if x15 < bif true then if x17 > x14 then x17 else x14 else if x17 < x14 then x17 else x14 then x15 else bif true then if x17 > x14 then x17 else x14 else if x17 < x14 then x17 else x14 else if x18 < bif true then if x15 > bif true then if x17 > x14 then x17 else x14 else if x17 < x14 then x17 else x14 then x15 else bif true then if x17 > x14 then x17 else x14 else if x17 < x14 then x17 else x14 else if x15 < bif true then if x17 > x14 then x17 else x14 else if x17 < x14 then x17 else x14 then x15 else bif true then if x17 > x14 then x17 else x14 else if x17 < x14 then x17 else x14 then x18 else bif true then if x15 > bif true then if x17 > x14 then x17 else x14 else if x17 < x14 then x17 else x14 then x15 else bif true then if x17 > x14 then x17 else x14 else if x17 < x14 then x17 else x14 else if x15 < bif true then if x17 > x14 then x17 else x14 else if x17 < x14 then x17 else x14 then x15 else bif true then if x17 > x14 then x17 else x14 else if x17 < x14 then x17 else x14 else if x16 < bif true then if x18 > bif true then if x15 > bif true then if x17 > x14 then x17 else x14 else if x17 < x14 then x17 else x14 then x15 else bif true then if x17 > x14 then x17 else x14 else if x17 < x14 then x17 else x14 else if x15 < bif true then if x17 > x14 then x17 else x14 else if x17 < x14 then x17 else x14 then x15 else bif true then if x17 > x14 then x17 else x14 else if x17 < x14 then x17 else x14 then x18 else bif true then if x15 > bif true then if x17 > x14 then x17 else x14 else if x17 < x14 then x17 else x14 then x15 else bif true then if x17 > x14 then x17 else x14 else if x17 < x14 then x17 else x14 else if x15 < bif true then if x17 > x14 then x17 else x14 else if x17 < x14 then x17 else x14 then x15 else bif true then if x17 > x14 then x17 else x14 else if x17 < x14 then x17 else x14 else if x18 < bif true then if x15 > bif true then if x17 > x14 then x17 else x14 else if x17 < x14 then x17 else x14 then x15 else bif true then if x17 > x14 then x17 else x14 else if x17 < x14 then x17 else x14 else if x15 < bif true then if x17 > x14 then x17 else x14 else if x17 < x14 then x17 else x14 then x15 else bif true then if x17 > x14 then x17 else x14 else if x17 < x14 then x17 else x14 then x18 else bif true then if x15 > bif true then if x17 > x14 then x17 else x14 else if x17 < x14 then x17 else x14 then x15 else bif true then if x17 > x14 then x17 else x14 else if x17 < x14 then x17 else x14 else if x15 < bif true then if x17 > x14 then x17 else x14 else if x17 < x14 then x17 else x14 then x15 else bif true then if x17 > x14 then x17 else x14 else if x17 < x14 then x17 else x14 then x16 else bif true then if x18 > bif true then if x15 > bif true then if x17 > x14 then x17 else x14 else if x17 < x14 then x17 else x14 then x15 else bif true then if x17 > x14 then x17 else x14 else if x17 < x14 then x17 else x14 else if x15 < bif true then if x17 > x14 then x17 else x14 else if x17 < x14 then x17 else x14 then x15 else bif true then if x17 > x14 then x17 else x14 else if x17 < x14 then x17 else x14 then x18 else bif true then if x15 > bif true then if x17 > x14 then x17 else x14 else if x17 < x14 then x17 else x14 then x15 else bif true then if x17 > x14 then x17 else x14 else if x17 < x14 then x17 else x14 else if x15 < bif true then if x17 > x14 then x17 else x14 else if x17 < x14 then x17 else x14 then x15 else bif true then if x17 > x14 then x17 else x14 else if x17 < x14 then x17 else x14 else if x18 < bif true then if x15 > bif true then if x17 > x14 then x17 else x14 else if x17 < x14 then x17 else x14 then x15 else bif true then if x17 > x14 then x17 else x14 else if x17 < x14 then x17 else x14 else if x15 < bif true then if x17 > x14 then x17 else x14 else if x17 < x14 then x17 else x14 then x15 else bif true then if x17 > x14 then x17 else x14 else if x17 < x14 then x17 else x14 then x18 else bif true then if x15 > bif true then if x17 > x14 then x17 else x14 else if x17 < x14 then x17 else x14 then x15 else bif true then if x17 > x14 then x17 else x14 else if x17 < x14 then x17 else x14 else if x15 < bif true then if x17 > x14 then x17 else x14 else if x17 < x14 then x17 else x14 then x15 else bif true then if x17 > x14 then x17 else x14 else if x17 < x14 then x17 else x14 else if x19 < bif true then if x16 > bif true then if x18 > bif true then if x15 > bif true then if x17 > x14 then x17 else x14 else if x17 < x14 then x17 else x14 then x15 else bif true then if x17 > x14 then x17 else x14 else if x17 < x14 then x17 else x14 else if x15 < bif true then if x17 > x14 then x17 else x14 else if x17 < x14 then x17 else x14 then x15 else bif true then if x17 > x14 then x17 else x14 else if x17 < x14 then x17 else x14 then x18 else bif true then if x15 > bif true then if x17 > x14 then x17 else x14 else if x17 < x14 then x17 else x14 then x15 else bif true then if x17 > x14 then x17 else x14 else if x17 < x14 then x17 else x14 else if x15 < bif true then if x17 > x14 then x17 else x14 else if x17 < x14 then x17 else x14 then x15 else bif true then if x17 > x14 then x17 else x14 else if x17 < x14 then x17 else x14 else if x18 < bif true then if x15 > bif true then if x17 > x14 then x17 else x14 else if x17 < x14 then x17 else x14 then x15 else bif true then if x17 > x14 then x17 else x14 else if x17 < x14 then x17 else x14 else if x15 < bif true then if x17 > x14 then x17 else x14 else if x17 < x14 then x17 else x14 then x15 else bif true then if x17 > x14 then x17 else x14 else if x17 < x14 then x17 else x14 then x18 else bif true then if x15 > bif true then if x17 > x14 then x17 else x14 else if x17 < x14 then x17 else x14 then x15 else bif true then if x17 > x14 then x17 else x14 else if x17 < x14 then x17 else x14 else if x15 < bif true then if x17 > x14 then x17 else x14 else if x17 < x14 then x17 else x14 then x15 else bif true then if x17 > x14 then x17 else x14 else if x17 < x14 then x17 else x14 then x16 else bif true then if x18 > bif true then if x15 > bif true then if x17 > x14 then x17 else x14 else if x17 < x14 then x17 else x14 then x15 else bif true then if x17 > x14 then x17 else x14 else if x17 < x14 then x17 else x14 else if x15 < bif true then if x17 > x14 then x17 else x14 else if x17 < x14 then x17 else x14 then x15 else bif true then if x17 > x14 then x17 else x14 else if x17 < x14 then x17 else x14 then x18 else bif true then if x15 > bif true then if x17 > x14 then x17 else x14 else if x17 < x14 then x17 else x14 then x15 else bif true then if x17 > x14 then x17 else x14 else if x17 < x14 then x17 else x14 else if x15 < bif true then if x17 > x14 then x17 else x14 else if x17 < x14 then x17 else x14 then x15 else bif true then if x17 > x14 then x17 else x14 else if x17 < x14 then x17 else x14 else if x18 < bif true then if x15 > bif true then if x17 > x14 then x17 else x14 else if x17 < x14 then x17 else x14 then x15 else bif true then if x17 > x14 then x17 else x14 else if x17 < x14 then x17 else x14 else if x15 < bif true then if x17 > x14 then x17 else x14 else if x17 < x14 then x17 else x14 then x15 else bif true then if x17 > x14 then x17 else x14 else if x17 < x14 then x17 else x14 then x18 else bif true then if x15 > bif true then if x17 > x14 then x17 else x14 else if x17 < x14 then x17 else x14 then x15 else bif true then if x17 > x14 then x17 else x14 else if x17 < x14 then x17 else x14 else if x15 < bif true then if x17 > x14 then x17 else x14 else if x17 < x14 then x17 else x14 then x15 else bif true then if x17 > x14 then x17 else x14 else if x17 < x14 then x17 else x14 else if x16 < bif true then if x18 > bif true then if x15 > bif true then if x17 > x14 then x17 else x14 else if x17 < x14 then x17 else x14 then x15 else bif true then if x17 > x14 then x17 else x14 else if x17 < x14 then x17 else x14 else if x15 < bif true then if x17 > x14 then x17 else x14 else if x17 < x14 then x17 else x14 then x15 else bif true then if x17 > x14 then x17 else x14 else if x17 < x14 then x17 else x14 then x18 else bif true then if x15 > bif true then if x17 > x14 then x17 else x14 else if x17 < x14 then x17 else x14 then x15 else bif true then if x17 > x14 then x17 else x14 else if x17 < x14 then x17 else x14 else if x15 < bif true then if x17 > x14 then x17 else x14 else if x17 < x14 then x17 else x14 then x15 else bif true then if x17 > x14 then x17 else x14 else if x17 < x14 then x17 else x14 else if x18 < bif true then if x15 > bif true then if x17 > x14 then x17 else x14 else if x17 < x14 then x17 else x14 then x15 else bif true then if x17 > x14 then x17 else x14 else if x17 < x14 then x17 else x14 else if x15 < bif true then if x17 > x14 then x17 else x14 else if x17 < x14 then x17 else x14 then x15 else bif true then if x17 > x14 then x17 else x14 else if x17 < x14 then x17 else x14 then x18 else bif true then if x15 > bif true then if x17 > x14 then x17 else x14 else if x17 < x14 then x17 else x14 then x15 else bif true then if x17 > x14 then x17 else x14 else if x17 < x14 then x17 else x14 else if x15 < bif true then if x17 > x14 then x17 else x14 else if x17 < x14 then x17 else x14 then x15 else bif true then if x17 > x14 then x17 else x14 else if x17 < x14 then x17 else x14 then x16 else bif true then if x18 > bif true then if x15 > bif true then if x17 > x14 then x17 else x14 else if x17 < x14 then x17 else x14 then x15 else bif true then if x17 > x14 then x17 else x14 else if x17 < x14 then x17 else x14 else if x15 < bif true then if x17 > x14 then x17 else x14 else if x17 < x14 then x17 else x14 then x15 else bif true then if x17 > x14 then x17 else x14 else if x17 < x14 then x17 else x14 then x18 else bif true then if x15 > bif true then if x17 > x14 then x17 else x14 else if x17 < x14 then x17 else x14 then x15 else bif true then if x17 > x14 then x17 else x14 else if x17 < x14 then x17 else x14 else if x15 < bif true then if x17 > x14 then x17 else x14 else if x17 < x14 then x17 else x14 then x15 else bif true then if x17 > x14 then x17 else x14 else if x17 < x14 then x17 else x14 else if x18 < bif true then if x15 > bif true then if x17 > x14 then x17 else x14 else if x17 < x14 then x17 else x14 then x15 else bif true then if x17 > x14 then x17 else x14 else if x17 < x14 then x17 else x14 else if x15 < bif true then if x17 > x14 then x17 else x14 else if x17 < x14 then x17 else x14 then x15 else bif true then if x17 > x14 then x17 else x14 else if x17 < x14 then x17 else x14 then x18 else bif true then if x15 > bif true then if x17 > x14 then x17 else x14 else if x17 < x14 then x17 else x14 then x15 else bif true then if x17 > x14 then x17 else x14 else if x17 < x14 then x17 else x14 else if x15 < bif true then if x17 > x14 then x17 else x14 else if x17 < x14 then x17 else x14 then x15 else bif true then if x17 > x14 then x17 else x14 else if x17 < x14 then x17 else x14 then x19 else bif true then if x16 > bif true then if x18 > bif true then if x15 > bif true then if x17 > x14 then x17 else x14 else if x17 < x14 then x17 else x14 then x15 else bif true then if x17 > x14 then x17 else x14 else if x17 < x14 then x17 else x14 else if x15 < bif true then if x17 > x14 then x17 else x14 else if x17 < x14 then x17 else x14 then x15 else bif true then if x17 > x14 then x17 else x14 else if x17 < x14 then x17 else x14 then x18 else bif true then if x15 > bif true then if x17 > x14 then x17 else x14 else if x17 < x14 then x17 else x14 then x15 else bif true then if x17 > x14 then x17 else x14 else if x17 < x14 then x17 else x14 else if x15 < bif true then if x17 > x14 then x17 else x14 else if x17 < x14 then x17 else x14 then x15 else bif true then if x17 > x14 then x17 else x14 else if x17 < x14 then x17 else x14 else if x18 < bif true then if x15 > bif true then if x17 > x14 then x17 else x14 else if x17 < x14 then x17 else x14 then x15 else bif true then if x17 > x14 then x17 else x14 else if x17 < x14 then x17 else x14 else if x15 < bif true then if x17 > x14 then x17 else x14 else if x17 < x14 then x17 else x14 then x15 else bif true then if x17 > x14 then x17 else x14 else if x17 < x14 then x17 else x14 then x18 else bif true then if x15 > bif true then if x17 > x14 then x17 else x14 else if x17 < x14 then x17 else x14 then x15 else bif true then if x17 > x14 then x17 else x14 else if x17 < x14 then x17 else x14 else if x15 < bif true then if x17 > x14 then x17 else x14 else if x17 < x14 then x17 else x14 then x15 else bif true then if x17 > x14 then x17 else x14 else if x17 < x14 then x17 else x14 then x16 else bif true then if x18 > bif true then if x15 > bif true then if x17 > x14 then x17 else x14 else if x17 < x14 then x17 else x14 then x15 else bif true then if x17 > x14 then x17 else x14 else if x17 < x14 then x17 else x14 else if x15 < bif true then if x17 > x14 then x17 else x14 else if x17 < x14 then x17 else x14 then x15 else bif true then if x17 > x14 then x17 else x14 else if x17 < x14 then x17 else x14 then x18 else bif true then if x15 > bif true then if x17 > x14 then x17 else x14 else if x17 < x14 then x17 else x14 then x15 else bif true then if x17 > x14 then x17 else x14 else if x17 < x14 then x17 else x14 else if x15 < bif true then if x17 > x14 then x17 else x14 else if x17 < x14 then x17 else x14 then x15 else bif true then if x17 > x14 then x17 else x14 else if x17 < x14 then x17 else x14 else if x18 < bif true then if x15 > bif true then if x17 > x14 then x17 else x14 else if x17 < x14 then x17 else x14 then x15 else bif true then if x17 > x14 then x17 else x14 else if x17 < x14 then x17 else x14 else if x15 < bif true then if x17 > x14 then x17 else x14 else if x17 < x14 then x17 else x14 then x15 else bif true then if x17 > x14 then x17 else x14 else if x17 < x14 then x17 else x14 then x18 else bif true then if x15 > bif true then if x17 > x14 then x17 else x14 else if x17 < x14 then x17 else x14 then x15 else bif true then if x17 > x14 then x17 else x14 else if x17 < x14 then x17 else x14 else if x15 < bif true then if x17 > x14 then x17 else x14 else if x17 < x14 then x17 else x14 then x15 else bif true then if x17 > x14 then x17 else x14 else if x17 < x14 then x17 else x14 else if x16 < bif true then if x18 > bif true then if x15 > bif true then if x17 > x14 then x17 else x14 else if x17 < x14 then x17 else x14 then x15 else bif true then if x17 > x14 then x17 else x14 else if x17 < x14 then x17 else x14 else if x15 < bif true then if x17 > x14 then x17 else x14 else if x17 < x14 then x17 else x14 then x15 else bif true then if x17 > x14 then x17 else x14 else if x17 < x14 then x17 else x14 then x18 else bif true then if x15 > bif true then if x17 > x14 then x17 else x14 else if x17 < x14 then x17 else x14 then x15 else bif true then if x17 > x14 then x17 else x14 else if x17 < x14 then x17 else x14 else if x15 < bif true then if x17 > x14 then x17 else x14 else if x17 < x14 then x17 else x14 then x15 else bif true then if x17 > x14 then x17 else x14 else if x17 < x14 then x17 else x14 else if x18 < bif true then if x15 > bif true then if x17 > x14 then x17 else x14 else if x17 < x14 then x17 else x14 then x15 else bif true then if x17 > x14 then x17 else x14 else if x17 < x14 then x17 else x14 else if x15 < bif true then if x17 > x14 then x17 else x14 else if x17 < x14 then x17 else x14 then x15 else bif true then if x17 > x14 then x17 else x14 else if x17 < x14 then x17 else x14 then x18 else bif true then if x15 > bif true then if x17 > x14 then x17 else x14 else if x17 < x14 then x17 else x14 then x15 else bif true then if x17 > x14 then x17 else x14 else if x17 < x14 then x17 else x14 else if x15 < bif true then if x17 > x14 then x17 else x14 else if x17 < x14 then x17 else x14 then x15 else bif true then if x17 > x14 then x17 else x14 else if x17 < x14 then x17 else x14 then x16 else bif true then if x18 > bif true then if x15 > bif true then if x17 > x14 then x17 else x14 else if x17 < x14 then x17 else x14 then x15 else bif true then if x17 > x14 then x17 else x14 else if x17 < x14 then x17 else x14 else if x15 < bif true then if x17 > x14 then x17 else x14 else if x17 < x14 then x17 else x14 then x15 else bif true then if x17 > x14 then x17 else x14 else if x17 < x14 then x17 else x14 then x18 else bif true then if x15 > bif true then if x17 > x14 then x17 else x14 else if x17 < x14 then x17 else x14 then x15 else bif true then if x17 > x14 then x17 else x14 else if x17 < x14 then x17 else x14 else if x15 < bif true then if x17 > x14 then x17 else x14 else if x17 < x14 then x17 else x14 then x15 else bif true then if x17 > x14 then x17 else x14 else if x17 < x14 then x17 else x14 else if x18 < bif true then if x15 > bif true then if x17 > x14 then x17 else x14 else if x17 < x14 then x17 else x14 then x15 else bif true then if x17 > x14 then x17 else x14 else if x17 < x14 then x17 else x14 else if x15 < bif true then if x17 > x14 then x17 else x14 else if x17 < x14 then x17 else x14 then x15 else bif true then if x17 > x14 then x17 else x14 else if x17 < x14 then x17 else x14 then x18 else bif true then if x15 > bif true then if x17 > x14 then x17 else x14 else if x17 < x14 then x17 else x14 then x15 else bif true then if x17 > x14 then x17 else x14 else if x17 < x14 then x17 else x14 else if x15 < bif true then if x17 > x14 then x17 else x14 else if x17 < x14 then x17 else x14 then x15 else bif true then if x17 > x14 then x17 else x14 else if x17 < x14 then x17 else x14) →
    Q ⟨.ce (.bool (decide (x20 ≤ 1))), false, [], []⟩))))))) := by kernel_rfl
end Go.Proofs.YtgnknciihdajiaaDoor
namespace U
def sgz (z : Int) : Int := if z ≥ 0 then 1 else -1
theorem sgz_pm (z : Int) : sgz z = 1 ∨ sgz z = -1 := by unfold sgz; split <;> simp
theorem cstep_eq (n : Nat) (s : C3) : cstep n s = ⟨s.x - sgz s.z * (s.y / 2 ^ n), s.y + sgz s.z * (s.x / 2 ^ n), s.z - sgz s.z * atab.getD n 0⟩ := by
  have a : ∀ p q : Int, p - -1 * q = p + q := fun p q => by omega
  have b : ∀ p q : Int, p + -1 * q = p - q := fun p q => by omega
  unfold cstep sgz
  rw [fdiv_pow, fdiv_pow]
  split
  · rw [Int.one_mul, Int.one_mul, Int.one_mul]
  · rw [a, b, a]
theorem fl_add {a b P e : Int} (hP : 0 < P) (h : -e ≤ a + b ∧ a + b ≤ e) : -(e / P + 2) ≤ a / P + b / P ∧ a / P + b / P ≤ e / P + 2 := by
  have ea := Int.mul_ediv_add_emod a P
  have eb := Int.mul_ediv_add_emod b P
  have ee := Int.mul_ediv_add_emod e P
  have a0 := Int.emod_nonneg a (show P ≠ 0 by omega)
  have a1 := Int.emod_lt_of_pos a hP
  have b0 := Int.emod_nonneg b (show P ≠ 0 by omega)
  have b1 := Int.emod_lt_of_pos b hP
  have e0 := Int.emod_nonneg e (show P ≠ 0 by omega)
  have e1 := Int.emod_lt_of_pos e hP
  generalize a / P = qa at *
  generalize b / P = qb at *
  generalize e / P = qe at *
  have m : P * (qa + qb) = P * qa + P * qb := Int.mul_add _ _ _
  constructor
  · by_cases c : -(qe + 2) ≤ qa + qb
    · exact c
    · have := Int.mul_le_mul_of_nonneg_left (show qa + qb ≤ -(qe + 3) by omega) (Int.le_of_lt hP)
      have k : P * -(qe + 3) = -(P * qe) - 3 * P := by grind
      omega
  · by_cases c : qa + qb ≤ qe + 2
    · exact c
    · have := Int.mul_le_mul_of_nonneg_left (show qe + 3 ≤ qa + qb by omega) (Int.le_of_lt hP)
      have k : P * (qe + 3) = P * qe + 3 * P := by grind
      omega
theorem fl_sub {a b P e : Int} (hP : 0 < P) (h : -e ≤ a - b ∧ a - b ≤ e) : -(e / P + 2) ≤ a / P - b / P ∧ a / P - b / P ≤ e / P + 2 := by
  have ea := Int.mul_ediv_add_emod a P
  have eb := Int.mul_ediv_add_emod b P
  have ee := Int.mul_ediv_add_emod e P
  have a0 := Int.emod_nonneg a (show P ≠ 0 by omega)
  have a1 := Int.emod_lt_of_pos a hP
  have b0 := Int.emod_nonneg b (show P ≠ 0 by omega)
  have b1 := Int.emod_lt_of_pos b hP
  have e0 := Int.emod_nonneg e (show P ≠ 0 by omega)
  have e1 := Int.emod_lt_of_pos e hP
  generalize a / P = qa at *
  generalize b / P = qb at *
  generalize e / P = qe at *
  have m : P * (qa - qb) = P * qa - P * qb := Int.mul_sub _ _ _
  constructor
  · by_cases c : -(qe + 2) ≤ qa - qb
    · exact c
    · have := Int.mul_le_mul_of_nonneg_left (show qa - qb ≤ -(qe + 3) by omega) (Int.le_of_lt hP)
      have k : P * -(qe + 3) = -(P * qe) - 3 * P := by grind
      omega
  · by_cases c : qa - qb ≤ qe + 2
    · exact c
    · have := Int.mul_le_mul_of_nonneg_left (show qe + 3 ≤ qa - qb by omega) (Int.le_of_lt hP)
      have k : P * (qe + 3) = P * qe + 3 * P := by grind
      omega
def dN : Nat → Int
  | 0 => 0
  | n + 1 => dN n + dN n / 2 ^ n + 3
theorem mirr (z : Int) : ∀ n, (∀ j, j < n → (cord z j).z ≠ 0) → (cord (-z) n).z = -(cord z n).z ∧ (-dN n ≤ (cord z n).x - (cord (-z) n).x ∧ (cord z n).x - (cord (-z) n).x ≤ dN n) ∧ (-dN n ≤ (cord z n).y + (cord (-z) n).y ∧ (cord z n).y + (cord (-z) n).y ≤ dN n)
  | 0, _ => by
    have e : (cord z 0).x = 652032874 ∧ (cord (-z) 0).x = 652032874 ∧ (cord z 0).y = 0 ∧ (cord (-z) 0).y = 0 ∧ (cord z 0).z = z ∧ (cord (-z) 0).z = -z ∧ dN 0 = 0 := ⟨rfl, rfl, rfl, rfl, rfl, rfl, rfl⟩
    omega
  | n + 1, h => by
    obtain ⟨h1, h2, h3⟩ := mirr z n fun j hj => h j (by omega)
    have hz := h n (by omega)
    have hp : (0 : Int) < 2 ^ n := Int.pow_pos (by decide)
    have fy := fl_add hp h3
    have fx := fl_sub hp h2
    have e : dN (n + 1) = dN n + dN n / 2 ^ n + 3 := rfl
    have sg : sgz (cord (-z) n).z = -sgz (cord z n).z := by
      rw [h1]
      unfold sgz
      by_cases c : (cord z n).z ≥ 0
      · rw [if_pos c, if_neg (by omega)]
      · rw [if_neg c, if_pos (by omega)]; rfl
    rw [cord_succ, cord_succ, cstep_eq, cstep_eq, sg, e]
    dsimp only
    generalize atab.getD n 0 = t
    rcases sgz_pm (cord z n).z with k | k <;> rw [k] <;> omega
def zp (i : Nat) : Nat → Int
  | 0 => 0
  | k + 1 => zp i k - sgz (zp i k) * atab.getD (i + k) 0
structure Lp where
  A : Int
  B : Int
  L : Int
  e : Int
def lp (i : Nat) : Nat → Lp
  | 0 => ⟨1, 0, 1, 0⟩
  | k + 1 => ⟨2 ^ (i + k) * (lp i k).A - sgz (zp i k) * (lp i k).B, 2 ^ (i + k) * (lp i k).B + sgz (zp i k) * (lp i k).A, 2 ^ (i + k) * (lp i k).L, (lp i k).e + (lp i k).e / 2 ^ (i + k) + 3⟩
theorem lin_b {P L e η θ ε s : Int} (hP : 0 < P) (hL : 0 < L) (he : 0 ≤ e) (hs : s = 1 ∨ s = -1) (h1 : -(e * L) ≤ η ∧ η ≤ e * L) (h2 : -(e * L) ≤ θ ∧ θ ≤ e * L) (h3 : -(2 * P) ≤ ε ∧ ε ≤ 2 * P) :
    -((e + e / P + 3) * (P * L)) ≤ P * η - s * θ - s * (L * ε) ∧ P * η - s * θ - s * (L * ε) ≤ (e + e / P + 3) * (P * L) := by
  have m1 := mulb (u := P) (v := η) (A := P) (B := e * L) (by omega) h1
  have m2 := mulb (u := L) (v := ε) (A := L) (B := 2 * P) (by omega) h3
  have ee := Int.mul_ediv_add_emod e P
  have e1 := Int.emod_lt_of_pos e hP
  have m3 : e * L ≤ (P * (e / P) + P) * L := Int.mul_le_mul_of_nonneg_right (by omega) (Int.le_of_lt hL)
  have id : (e + e / P + 3) * (P * L) = P * (e * L) + (P * (e / P) + P) * L + L * (2 * P) := by grind
  rw [id]
  rcases hs with rfl | rfl <;> omega
theorem lin_s {P L A B e u v u0 v0 w w' s : Int} (hP : 0 < P) (hL : 0 < L) (he : 0 ≤ e) (hs : s = 1 ∨ s = -1)
    (h1 : -(e * L) ≤ L * u - (A * u0 - B * v0) ∧ L * u - (A * u0 - B * v0) ≤ e * L) (h2 : -(e * L) ≤ L * v - (B * u0 + A * v0) ∧ L * v - (B * u0 + A * v0) ≤ e * L)
    (hw : -(2 * P) ≤ P * w - v ∧ P * w - v ≤ 2 * P) (hw' : -(2 * P) ≤ P * w' - u ∧ P * w' - u ≤ 2 * P) :
    (-((e + e / P + 3) * (P * L)) ≤ P * L * (u - s * w) - ((P * A - s * B) * u0 - (P * B + s * A) * v0) ∧ P * L * (u - s * w) - ((P * A - s * B) * u0 - (P * B + s * A) * v0) ≤ (e + e / P + 3) * (P * L)) ∧
    (-((e + e / P + 3) * (P * L)) ≤ P * L * (v + s * w') - ((P * B + s * A) * u0 + (P * A - s * B) * v0) ∧ P * L * (v + s * w') - ((P * B + s * A) * u0 + (P * A - s * B) * v0) ≤ (e + e / P + 3) * (P * L)) := by
  have i1 : P * L * (u - s * w) - ((P * A - s * B) * u0 - (P * B + s * A) * v0) = P * (L * u - (A * u0 - B * v0)) - s * (L * v - (B * u0 + A * v0)) - s * (L * (P * w - v)) := by grind
  have i2 : P * L * (v + s * w') - ((P * B + s * A) * u0 + (P * A - s * B) * v0) = P * (L * v - (B * u0 + A * v0)) - (-s) * (L * u - (A * u0 - B * v0)) - (-s) * (L * (P * w' - u)) := by grind
  rw [i1, i2]
  exact ⟨lin_b hP hL he hs h1 h2 hw, lin_b hP hL he (by omega) h2 h1 hw'⟩
theorem lp_pos (i : Nat) : ∀ k, 0 < (lp i k).L ∧ 0 ≤ (lp i k).e
  | 0 => ⟨by show (0 : Int) < 1; decide, by show (0 : Int) ≤ 0; decide⟩
  | k + 1 => by
    obtain ⟨h1, h2⟩ := lp_pos i k
    have hp : (0 : Int) < 2 ^ (i + k) := Int.pow_pos (by decide)
    have hd := Int.ediv_nonneg h2 (Int.le_of_lt hp)
    exact ⟨Int.mul_pos hp h1, by show 0 ≤ (lp i k).e + (lp i k).e / 2 ^ (i + k) + 3; omega⟩
theorem same (z : Int) (i : Nat) (h0 : (cord z i).z = 0) (h0' : (cord (-z) i).z = 0) : ∀ k, ((cord z (i + k)).z = zp i k ∧ (cord (-z) (i + k)).z = zp i k) ∧
    ((-((lp i k).e * (lp i k).L) ≤ (lp i k).L * ((cord z (i + k)).x - (cord (-z) (i + k)).x) - ((lp i k).A * ((cord z i).x - (cord (-z) i).x) - (lp i k).B * ((cord z i).y - (cord (-z) i).y)) ∧
      (lp i k).L * ((cord z (i + k)).x - (cord (-z) (i + k)).x) - ((lp i k).A * ((cord z i).x - (cord (-z) i).x) - (lp i k).B * ((cord z i).y - (cord (-z) i).y)) ≤ (lp i k).e * (lp i k).L) ∧
     (-((lp i k).e * (lp i k).L) ≤ (lp i k).L * ((cord z (i + k)).y - (cord (-z) (i + k)).y) - ((lp i k).B * ((cord z i).x - (cord (-z) i).x) + (lp i k).A * ((cord z i).y - (cord (-z) i).y)) ∧
      (lp i k).L * ((cord z (i + k)).y - (cord (-z) (i + k)).y) - ((lp i k).B * ((cord z i).x - (cord (-z) i).x) + (lp i k).A * ((cord z i).y - (cord (-z) i).y)) ≤ (lp i k).e * (lp i k).L)) ∧
    ((-((lp i k).e * (lp i k).L) ≤ (lp i k).L * ((cord z (i + k)).x + (cord (-z) (i + k)).x) - ((lp i k).A * ((cord z i).x + (cord (-z) i).x) - (lp i k).B * ((cord z i).y + (cord (-z) i).y)) ∧
      (lp i k).L * ((cord z (i + k)).x + (cord (-z) (i + k)).x) - ((lp i k).A * ((cord z i).x + (cord (-z) i).x) - (lp i k).B * ((cord z i).y + (cord (-z) i).y)) ≤ (lp i k).e * (lp i k).L) ∧
     (-((lp i k).e * (lp i k).L) ≤ (lp i k).L * ((cord z (i + k)).y + (cord (-z) (i + k)).y) - ((lp i k).B * ((cord z i).x + (cord (-z) i).x) + (lp i k).A * ((cord z i).y + (cord (-z) i).y)) ∧
      (lp i k).L * ((cord z (i + k)).y + (cord (-z) (i + k)).y) - ((lp i k).B * ((cord z i).x + (cord (-z) i).x) + (lp i k).A * ((cord z i).y + (cord (-z) i).y)) ≤ (lp i k).e * (lp i k).L))
  | 0 => by
    have e : (lp i 0).A = 1 ∧ (lp i 0).B = 0 ∧ (lp i 0).L = 1 ∧ (lp i 0).e = 0 ∧ zp i 0 = 0 := ⟨rfl, rfl, rfl, rfl, rfl⟩
    obtain ⟨e1, e2, e3, e4, e5⟩ := e
    rw [e1, e2, e3, e4, e5, Nat.add_zero]
    refine ⟨⟨h0, h0'⟩, ⟨by omega, by omega⟩, by omega, by omega⟩
  | k + 1 => by
    obtain ⟨⟨z1, z2⟩, ⟨a1, a2⟩, a3, a4⟩ := same z i h0 h0' k
    obtain ⟨pl, pe⟩ := lp_pos i k
    have hp : (0 : Int) < 2 ^ (i + k) := Int.pow_pos (by decide)
    have fl : ∀ a : Int, 2 ^ (i + k) * (a / 2 ^ (i + k)) ≤ a ∧ a < 2 ^ (i + k) * (a / 2 ^ (i + k)) + 2 ^ (i + k) := fun a => by
      have h1 := Int.mul_ediv_add_emod a (2 ^ (i + k))
      have h2 := Int.emod_nonneg a (show (2 : Int) ^ (i + k) ≠ 0 by omega)
      have h3 := Int.emod_lt_of_pos a hp
      omega
    have s1 := cord_succ z (i + k)
    have s2 := cord_succ (-z) (i + k)
    rw [cstep_eq, z1] at s1
    rw [cstep_eq, z2] at s2
    have g1 := fl (cord z (i + k)).x
    have g2 := fl (cord z (i + k)).y
    have g3 := fl (cord (-z) (i + k)).x
    have g4 := fl (cord (-z) (i + k)).y
    have hs := sgz_pm (zp i k)
    have b1 := lin_s (w := (cord z (i + k)).y / 2 ^ (i + k) - (cord (-z) (i + k)).y / 2 ^ (i + k)) (w' := (cord z (i + k)).x / 2 ^ (i + k) - (cord (-z) (i + k)).x / 2 ^ (i + k)) hp pl pe hs a1 a2 (by rw [Int.mul_sub]; omega) (by rw [Int.mul_sub]; omega)
    have b2 := lin_s (w := (cord z (i + k)).y / 2 ^ (i + k) + (cord (-z) (i + k)).y / 2 ^ (i + k)) (w' := (cord z (i + k)).x / 2 ^ (i + k) + (cord (-z) (i + k)).x / 2 ^ (i + k)) hp pl pe hs a3 a4 (by rw [Int.mul_add]; omega) (by rw [Int.mul_add]; omega)
    have x1 : (cord z (i + (k + 1))).x = (cord z (i + k)).x - sgz (zp i k) * ((cord z (i + k)).y / 2 ^ (i + k)) := congrArg C3.x s1
    have y1 : (cord z (i + (k + 1))).y = (cord z (i + k)).y + sgz (zp i k) * ((cord z (i + k)).x / 2 ^ (i + k)) := congrArg C3.y s1
    have t1 : (cord z (i + (k + 1))).z = zp i (k + 1) := congrArg C3.z s1
    have x2 : (cord (-z) (i + (k + 1))).x = (cord (-z) (i + k)).x - sgz (zp i k) * ((cord (-z) (i + k)).y / 2 ^ (i + k)) := congrArg C3.x s2
    have y2 : (cord (-z) (i + (k + 1))).y = (cord (-z) (i + k)).y + sgz (zp i k) * ((cord (-z) (i + k)).x / 2 ^ (i + k)) := congrArg C3.y s2
    have t2 : (cord (-z) (i + (k + 1))).z = zp i (k + 1) := congrArg C3.z s2
    have q1 : (cord z (i + (k + 1))).x - (cord (-z) (i + (k + 1))).x = (cord z (i + k)).x - (cord (-z) (i + k)).x - sgz (zp i k) * ((cord z (i + k)).y / 2 ^ (i + k) - (cord (-z) (i + k)).y / 2 ^ (i + k)) := by rw [x1, x2, Int.mul_sub]; omega
    have q2 : (cord z (i + (k + 1))).y - (cord (-z) (i + (k + 1))).y = (cord z (i + k)).y - (cord (-z) (i + k)).y + sgz (zp i k) * ((cord z (i + k)).x / 2 ^ (i + k) - (cord (-z) (i + k)).x / 2 ^ (i + k)) := by rw [y1, y2, Int.mul_sub]; omega
    have q3 : (cord z (i + (k + 1))).x + (cord (-z) (i + (k + 1))).x = (cord z (i + k)).x + (cord (-z) (i + k)).x - sgz (zp i k) * ((cord z (i + k)).y / 2 ^ (i + k) + (cord (-z) (i + k)).y / 2 ^ (i + k)) := by rw [x1, x2, Int.mul_add]; omega
    have q4 : (cord z (i + (k + 1))).y + (cord (-z) (i + (k + 1))).y = (cord z (i + k)).y + (cord (-z) (i + k)).y + sgz (zp i k) * ((cord z (i + k)).x / 2 ^ (i + k) + (cord (-z) (i + k)).x / 2 ^ (i + k)) := by rw [y1, y2, Int.mul_add]; omega
    rw [q1, q2, q3, q4]
    exact ⟨⟨t1, t2⟩, b1, b2⟩
theorem lp_num : ∀ i, i < 26 → (-(2 * (lp i (26 - i)).L) ≤ (lp i (26 - i)).A ∧ (lp i (26 - i)).A ≤ 2 * (lp i (26 - i)).L) ∧ (-(lp i (26 - i)).L ≤ 16777216 * (lp i (26 - i)).B ∧ 16777216 * (lp i (26 - i)).B ≤ (lp i (26 - i)).L) ∧ (lp i (26 - i)).e ≤ 200 := by decide +kernel
theorem first0 (P : Nat → Prop) : ∀ n, (∀ j, j < n → P j) ∨ ∃ i, i < n ∧ ¬ P i ∧ ∀ j, j < i → P j
  | 0 => .inl fun j hj => by omega
  | n + 1 => by
    rcases first0 P n with h | ⟨i, hi, h1, h2⟩
    · by_cases c : P n
      · exact .inl fun j hj => by
          by_cases e : j = n
          · rw [e]; exact c
          · exact h j (by omega)
      · exact .inr ⟨n, by omega, c, h⟩
    · exact .inr ⟨i, by omega, h1, h2⟩
theorem mir26 (z : Int) : (-1000 ≤ (cord z 26).x - (cord (-z) 26).x ∧ (cord z 26).x - (cord (-z) 26).x ≤ 1000) ∧ (-1000 ≤ (cord z 26).y + (cord (-z) 26).y ∧ (cord z 26).y + (cord (-z) 26).y ≤ 1000) := by
  have dn : ∀ i, i < 27 → dN i ≤ 81 := by decide +kernel
  rcases first0 (fun j => (cord z j).z ≠ 0) 26 with h | ⟨i, hi, h1, h2⟩
  · have m := mirr z 26 h
    have := dn 26 (by decide)
    omega
  · have h1 : (cord z i).z = 0 := by omega
    obtain ⟨m1, m2, m3⟩ := mirr z i h2
    have d := dn i (by omega)
    have S := same z i h1 (by omega) (26 - i)
    obtain ⟨n1, n2, n3⟩ := lp_num i hi
    obtain ⟨pl, pe⟩ := lp_pos i (26 - i)
    have c1 := cord_bd z i
    have c2 := cord_bd (-z) i
    have cl := cbd_le i (by omega)
    have e : i + (26 - i) = 26 := by omega
    rw [e] at S
    obtain ⟨_, ⟨s1, _⟩, _, s2⟩ := S
    generalize (cord z 26).x - (cord (-z) 26).x = u at *
    generalize (cord z 26).y + (cord (-z) 26).y = t at *
    generalize hu0 : (cord z i).x - (cord (-z) i).x = u0 at *
    generalize ht0 : (cord z i).y + (cord (-z) i).y = t0 at *
    generalize hv0 : (cord z i).y - (cord (-z) i).y = v0 at *
    generalize hs0 : (cord z i).x + (cord (-z) i).x = s0 at *
    generalize (lp i (26 - i)).L = L at *
    generalize (lp i (26 - i)).A = A at *
    generalize (lp i (26 - i)).B = B at *
    generalize (lp i (26 - i)).e = ee at *
    have k1 := mulb (u := A) (v := u0) (A := 2 * L) (B := 81) n1 (by omega)
    have k2 := mulb (u := A) (v := t0) (A := 2 * L) (B := 81) n1 (by omega)
    have k3 := mulb (u := 16777216 * B) (v := v0) (A := L) (B := 8589934592) n2 (by omega)
    have k4 := mulb (u := 16777216 * B) (v := s0) (A := L) (B := 8589934592) n2 (by omega)
    rw [Int.mul_assoc] at k3 k4
    have k5 : ee * L ≤ 200 * L := Int.mul_le_mul_of_nonneg_right n3 (Int.le_of_lt pl)
    have r1 : u ≤ 1000 := Int.le_of_mul_le_mul_left (show L * u ≤ L * 1000 by omega) pl
    have r2 : -1000 ≤ u := Int.le_of_mul_le_mul_left (show L * -1000 ≤ L * u by omega) pl
    have r3 : t ≤ 1000 := Int.le_of_mul_le_mul_left (show L * t ≤ L * 1000 by omega) pl
    have r4 : -1000 ≤ t := Int.le_of_mul_le_mul_left (show L * -1000 ≤ L * t by omega) pl
    exact ⟨⟨r2, r1⟩, r4, r3⟩
theorem trn_lit (x y : Int) : trn 0 (x, y) = (x, y) ∧ trn 1 (x, y) = (-y, x) ∧ trn 2 (x, y) = (-x, -y) ∧ trn 3 (x, y) = (y, -x) ∧ trn 4 (x, y) = (x, y) := by
  refine ⟨rfl, rfl, rfl, ?_, ?_⟩
  · show (- -y, -x) = (y, -x); rw [Int.neg_neg]
  · show (- -x, - -y) = (x, y); rw [Int.neg_neg, Int.neg_neg]
theorem quart {k k' : Nat} {x y x' y' : Int} (hk : k ≤ 4) (hx : -1000 ≤ x - x' ∧ x - x' ≤ 1000) (hy : -1000 ≤ y + y' ∧ y + y' ≤ 1000) (h : k' = 4 - k ∨ (k = 0 ∧ k' = 0)) :
    (-1000 ≤ (trn k' (x', y')).1 - (trn k (x, y)).1 ∧ (trn k' (x', y')).1 - (trn k (x, y)).1 ≤ 1000) ∧ (-1000 ≤ (trn k' (x', y')).2 + (trn k (x, y)).2 ∧ (trn k' (x', y')).2 + (trn k (x, y)).2 ≤ 1000) := by
  obtain ⟨a0, a1, a2, a3, a4⟩ := trn_lit x y
  obtain ⟨b0, b1, b2, b3, b4⟩ := trn_lit x' y'
  rcases h with h | ⟨h1, h2⟩
  · have k5 : k = 0 ∨ k = 1 ∨ k = 2 ∨ k = 3 ∨ k = 4 := by omega
    rcases k5 with e | e | e | e | e
    · rw [h, e, a0, b4]; dsimp only; omega
    · rw [h, e, a1, b3]; dsimp only; omega
    · rw [h, e, a2, b2]; dsimp only; omega
    · rw [h, e, a3, b1]; dsimp only; omega
    · rw [h, e, a4, b0]; dsimp only; omega
  · rw [h1, h2, a0, b0]; dsimp only; omega
theorem scm (a : Int) : (-1000 ≤ scC (-a) - scC a ∧ scC (-a) - scC a ≤ 1000) ∧ (-1000 ≤ scS (-a) + scS a ∧ scS (-a) + scS a ≤ 1000) := by
  have hb := ang_bd a
  have kb := akq_bd a
  have rb := ars_bd a
  have hang : ang (-a) = if ang a = 0 then 0 else 360000000 - ang a := by unfold ang; split <;> omega
  have hak : akq a = (ang a + 45000000) / 90000000 := rfl
  have har : ars a = ang a - akq a * 90000000 := rfl
  have hak' : akq (-a) = (ang (-a) + 45000000) / 90000000 := rfl
  have har' : ars (-a) = ang (-a) - akq (-a) * 90000000 := rfl
  unfold scC scS
  by_cases c0 : ars a = 0
  · have r' : ars (-a) = 0 := by split at hang <;> omega
    have q1 : cs0 a = (1073741824, 0) := by unfold cs0; rw [if_neg (fun h => h c0)]
    have q2 : cs0 (-a) = (1073741824, 0) := by unfold cs0; rw [if_neg (fun h => h r')]
    rw [q1, q2]
    exact quart (k := (akq a).toNat) (k' := (akq (-a)).toNat) (by omega) (by omega) (by omega) (by split at hang <;> omega)
  · by_cases c1 : ars a = -45000000
    · have r' : ars (-a) = -45000000 := by split at hang <;> omega
      have cc : (cord (-45000000 * 1000) 26).x = 759250129 ∧ (cord (-45000000 * 1000) 26).y = -759250124 := by decide +kernel
      have q1 : cs0 a = (759250129, -759250124) := by unfold cs0; rw [if_pos c0, c1, cc.1, cc.2]
      have q2 : cs0 (-a) = (759250129, -759250124) := by unfold cs0; rw [if_pos (by omega), r', cc.1, cc.2]
      rw [q1, q2]
      have kk : ((akq a).toNat = 1 ∧ (akq (-a)).toNat = 4) ∨ ((akq a).toNat = 2 ∧ (akq (-a)).toNat = 3) ∨ ((akq a).toNat = 3 ∧ (akq (-a)).toNat = 2) ∨ ((akq a).toNat = 4 ∧ (akq (-a)).toNat = 1) := by split at hang <;> omega
      rcases kk with ⟨e1, e2⟩ | ⟨e1, e2⟩ | ⟨e1, e2⟩ | ⟨e1, e2⟩ <;> rw [e1, e2] <;> decide
    · have r' : ars (-a) = -ars a := by split at hang <;> omega
      have m := mir26 (ars a * 1000)
      have q1 : cs0 a = ((cord (ars a * 1000) 26).x, (cord (ars a * 1000) 26).y) := by unfold cs0; rw [if_pos c0]
      have q2 : cs0 (-a) = ((cord (-(ars a * 1000)) 26).x, (cord (-(ars a * 1000)) 26).y) := by unfold cs0; rw [if_pos (by omega), r', Int.neg_mul]
      rw [q1, q2]
      exact quart (k := (akq a).toNat) (k' := (akq (-a)).toNat) (by omega) m.1 m.2 (by split at hang <;> omega)
theorem back1 {u w C S C' S' U W : Int} (hT : 1152920586126786920 ≤ C * C + S * S ∧ C * C + S * S ≤ 1152922422000000000) (hu : -250000 ≤ u ∧ u ≤ 250000) (hw : -250000 ≤ w ∧ w ≤ 250000)
    (hU : U = nr (u * C - w * S)) (hW : W = nr (u * S + w * C)) (hC : -1000 ≤ C' - C ∧ C' - C ≤ 1000) (hS : -1000 ≤ S' + S ∧ S' + S ≤ 1000) :
    (-1 ≤ nr (U * C' - W * S') - u ∧ nr (U * C' - W * S') - u ≤ 1) ∧ (-1 ≤ nr (U * S' + W * C') - w ∧ nr (U * S' + W * C') - w ≤ 1) := by
  obtain ⟨e1, f1, e1a, e1b⟩ := nr_e (u * C - w * S)
  obtain ⟨e2, f2, e2a, e2b⟩ := nr_e (u * S + w * C)
  rw [← hU] at f1
  rw [← hW] at f2
  obtain ⟨e3, f3, e3a, e3b⟩ := nr_e (U * C' - W * S')
  obtain ⟨e4, f4, e4a, e4b⟩ := nr_e (U * S' + W * C')
  have abs : ∀ x : Int, ∃ y : Int, (y = x ∨ y = -x) ∧ 0 ≤ y := fun x => by
    by_cases c : 0 ≤ x
    · exact ⟨x, .inl rfl, c⟩
    · exact ⟨-x, .inr rfl, by omega⟩
  have sqa : ∀ x y : Int, (y = x ∨ y = -x) → y * y = x * x := fun x y h => by rcases h with e | e <;> rw [e]; rw [Int.neg_mul_neg]
  obtain ⟨aC, hC1, hC2⟩ := abs C
  obtain ⟨aS, hS1, hS2⟩ := abs S
  have cs : aC + aS ≤ 1518500900 := by
    refine sq_le (by decide) ?_
    have x1 : (aC + aS) * (aC + aS) = 2 * (aC * aC + aS * aS) - (aC - aS) * (aC - aS) := by grind
    have x2 := sq_nn (aC - aS)
    rw [x1, sqa _ _ hC1, sqa _ _ hS1]
    omega
  have id0 : (u * C - w * S) * (u * C - w * S) + (u * S + w * C) * (u * S + w * C) = (u * u + w * w) * (C * C + S * S) := by grind
  have uu := mulb hu hu
  have ww := mulb hw hw
  have u2 := sq_nn u
  have w2 := sq_nn w
  have rT : (u * u + w * w) * (C * C + S * S) ≤ 125000000000 * 1152922422000000000 := Int.mul_le_mul (by omega) hT.2 (by omega) (by decide)
  obtain ⟨P, hP, P0⟩ := abs (u * C - w * S)
  obtain ⟨Q, hQ, Q0⟩ := abs (u * S + w * C)
  have pq : P + Q ≤ 536871200000000 := by
    refine sq_le (by decide) ?_
    have x1 : (P + Q) * (P + Q) = 2 * (P * P + Q * Q) - (P - Q) * (P - Q) := by grind
    have x2 := sq_nn (P - Q)
    rw [x1, sqa _ _ hP, sqa _ _ hQ]
    omega
  obtain ⟨aU, hU1, hU2⟩ := abs U
  obtain ⟨aW, hW1, hW2⟩ := abs W
  have uw : aU + aW ≤ 500002 := by omega
  have g1 := mulb (u := U) (v := C' - C) (A := aU) (B := 1000) (by omega) hC
  have g2 := mulb (u := W) (v := S' + S) (A := aW) (B := 1000) (by omega) hS
  have g3 := mulb (u := U) (v := S' + S) (A := aU) (B := 1000) (by omega) hS
  have g4 := mulb (u := W) (v := C' - C) (A := aW) (B := 1000) (by omega) hC
  have t1 := mulb (u := e1) (v := C) (A := 536870912) (B := aC) (by omega) (by omega)
  have t2 := mulb (u := e2) (v := S) (A := 536870912) (B := aS) (by omega) (by omega)
  have t3 := mulb (u := e1) (v := S) (A := 536870912) (B := aS) (by omega) (by omega)
  have t4 := mulb (u := e2) (v := C) (A := 536870912) (B := aC) (by omega) (by omega)
  have d1 := mulb (u := u) (v := C * C + S * S - 1152921504606846976) (A := 250000) (B := 918480060056) hu (by omega)
  have d2 := mulb (u := w) (v := C * C + S * S - 1152921504606846976) (A := 250000) (B := 918480060056) hw (by omega)
  have i1 : 1152921504606846976 * nr (U * C' - W * S') = 1152921504606846976 * u + u * (C * C + S * S - 1152921504606846976) + (e1 * C + e2 * S) + 1073741824 * (U * (C' - C) - W * (S' + S)) + 1073741824 * e3 := by
    have a1 : 1152921504606846976 * nr (U * C' - W * S') = 1073741824 * (U * C' - W * S') + 1073741824 * e3 := by omega
    have a2 : 1073741824 * (U * C' - W * S') = (1073741824 * U) * C + (1073741824 * W) * S + 1073741824 * (U * (C' - C) - W * (S' + S)) := by grind
    rw [a1, a2, f1, f2]
    grind
  have i2 : 1152921504606846976 * nr (U * S' + W * C') = 1152921504606846976 * w + w * (C * C + S * S - 1152921504606846976) + (e2 * C - e1 * S) + 1073741824 * (U * (S' + S) + W * (C' - C)) + 1073741824 * e4 := by
    have a1 : 1152921504606846976 * nr (U * S' + W * C') = 1073741824 * (U * S' + W * C') + 1073741824 * e4 := by omega
    have a2 : 1073741824 * (U * S' + W * C') = (1073741824 * W) * C - (1073741824 * U) * S + 1073741824 * (U * (S' + S) + W * (C' - C)) := by grind
    rw [a1, a2, f1, f2]
    grind
  clear f3 f4 id0 rT hU hW hT
  generalize nr (U * C' - W * S') = A at *
  generalize nr (U * S' + W * C') = B at *
  generalize u * (C * C + S * S - 1152921504606846976) = D1 at *
  generalize w * (C * C + S * S - 1152921504606846976) = D2 at *
  omega
theorem t_back {pl c0 c1 c2 x y z a b : Int} (hp : 17 ≤ pl ∧ pl ≤ 19) :
    tA pl c0 c1 c2 (tX pl c0 c1 c2 x y z a) (tY pl c0 c1 c2 x y z a) (tZ pl c0 c1 c2 x y z a) b = rtU (rtU (fU pl x y z - fU pl c0 c1 c2) (fW pl x y z - fW pl c0 c1 c2) a) (rtW (fU pl x y z - fU pl c0 c1 c2) (fW pl x y z - fW pl c0 c1 c2) a) b + fU pl c0 c1 c2 ∧
    tB pl c0 c1 c2 (tX pl c0 c1 c2 x y z a) (tY pl c0 c1 c2 x y z a) (tZ pl c0 c1 c2 x y z a) b = rtW (rtU (fU pl x y z - fU pl c0 c1 c2) (fW pl x y z - fW pl c0 c1 c2) a) (rtW (fU pl x y z - fU pl c0 c1 c2) (fW pl x y z - fW pl c0 c1 c2) a) b + fW pl c0 c1 c2 ∧
    fH pl (tX pl c0 c1 c2 x y z a) (tY pl c0 c1 c2 x y z a) (tZ pl c0 c1 c2 x y z a) = fH pl x y z ∧
    tOk pl c0 c1 c2 (tX pl c0 c1 c2 x y z a) (tY pl c0 c1 c2 x y z a) (tZ pl c0 c1 c2 x y z a) = rtB (rtU (fU pl x y z - fU pl c0 c1 c2) (fW pl x y z - fW pl c0 c1 c2) a) (rtW (fU pl x y z - fU pl c0 c1 c2) (fW pl x y z - fW pl c0 c1 c2) a) := by
  have k : pl = 17 ∨ pl = 18 ∨ pl = 19 := by omega
  have f1 : fU pl (tX pl c0 c1 c2 x y z a) (tY pl c0 c1 c2 x y z a) (tZ pl c0 c1 c2 x y z a) = tA pl c0 c1 c2 x y z a := by rcases k with rfl | rfl | rfl <;> rfl
  have f2 : fW pl (tX pl c0 c1 c2 x y z a) (tY pl c0 c1 c2 x y z a) (tZ pl c0 c1 c2 x y z a) = tB pl c0 c1 c2 x y z a := by rcases k with rfl | rfl | rfl <;> rfl
  have f3 : fH pl (tX pl c0 c1 c2 x y z a) (tY pl c0 c1 c2 x y z a) (tZ pl c0 c1 c2 x y z a) = fH pl x y z := by rcases k with rfl | rfl | rfl <;> rfl
  have g1 : tA pl c0 c1 c2 x y z a - fU pl c0 c1 c2 = rtU (fU pl x y z - fU pl c0 c1 c2) (fW pl x y z - fW pl c0 c1 c2) a := by unfold tA; omega
  have g2 : tB pl c0 c1 c2 x y z a - fW pl c0 c1 c2 = rtW (fU pl x y z - fU pl c0 c1 c2) (fW pl x y z - fW pl c0 c1 c2) a := by unfold tB; omega
  rw [← g1, ← g2, ← f1, ← f2]
  exact ⟨rfl, rfl, f3, rfl⟩
theorem back_all {f : FrS} {x y z o0 o1 o2 : Int} (hf : okF f) (hp : B3 200000 x y z) (ho : B3 95000 o0 o1 o2) : ∃ r1 r2 r3 : Int,
    fromF f.tu f.pl f.c0 f.c1 f.c2 f.an o0 o1 o2 ((rotF f.tu f.pl f.c0 f.c1 f.c2 x y z f.an).x + o0) ((rotF f.tu f.pl f.c0 f.c1 f.c2 x y z f.an).y + o1) ((rotF f.tu f.pl f.c0 f.c1 f.c2 x y z f.an).z + o2) = ⟨r1, r2, r3, 0⟩ ∧
    (-1 ≤ r1 - x ∧ r1 - x ≤ 1) ∧ (-1 ≤ r2 - y ∧ r2 - y ≤ 1) ∧ (-1 ≤ r3 - z ∧ r3 - z ≤ 1) ∧ (f.tu = false → r1 = x ∧ r2 = y ∧ r3 = z) := by
  have rb := (rotF_b hf hp).2
  obtain ⟨k0, k1, k2⟩ := ho
  have hc := (okF_P hf).2
  have hpl := (okF_P hf).1.1
  obtain ⟨b0, b1, b2⟩ := rb
  have hw : wn ((rotF f.tu f.pl f.c0 f.c1 f.c2 x y z f.an).x + o0) ((rotF f.tu f.pl f.c0 f.c1 f.c2 x y z f.an).y + o1) ((rotF f.tu f.pl f.c0 f.c1 f.c2 x y z f.an).z + o2) = true := wn_iff.2 ⟨by omega, by omega, by omega⟩
  unfold fromF
  rw [if_pos hw, Int.add_sub_cancel, Int.add_sub_cancel, Int.add_sub_cancel]
  cases ht : f.tu with
  | false => exact ⟨x, y, z, mapW_ok rfl (wn_iff.2 (B3_mono hp (by decide))), by omega, by omega, by omega, fun _ => ⟨rfl, rfl, rfl⟩⟩
  | true =>
    have hpl := hpl ht
    have fa := flat_bd (p := f.pl) (by decide) hp
    have fb := flat_bd (p := f.pl) (by decide) hc
    obtain ⟨p1, p2, p3⟩ := hp
    obtain ⟨t1, t2, t3, t4⟩ := t_back (pl := f.pl) (c0 := f.c0) (c1 := f.c1) (c2 := f.c2) (x := x) (y := y) (z := z) (a := f.an) (b := -f.an) hpl
    have r := rt_b (x := fU f.pl x y z - fU f.pl f.c0 f.c1 f.c2) (y := fW f.pl x y z - fW f.pl f.c0 f.c1 f.c2) (a := f.an) (by omega) (by omega)
    have e1 : rtB (fU f.pl x y z - fU f.pl f.c0 f.c1 f.c2) (fW f.pl x y z - fW f.pl f.c0 f.c1 f.c2) = true := decide_eq_true (by omega)
    have bk := back1 (sc_n f.an) (u := fU f.pl x y z - fU f.pl f.c0 f.c1 f.c2) (w := fW f.pl x y z - fW f.pl f.c0 f.c1 f.c2) (U := rtU (fU f.pl x y z - fU f.pl f.c0 f.c1 f.c2) (fW f.pl x y z - fW f.pl f.c0 f.c1 f.c2) f.an) (W := rtW (fU f.pl x y z - fU f.pl f.c0 f.c1 f.c2) (fW f.pl x y z - fW f.pl f.c0 f.c1 f.c2) f.an) (by omega) (by omega) (by unfold rtU; rw [if_pos e1]) (by unfold rtW; rw [if_pos e1]) (scm f.an).1 (scm f.an).2
    generalize hU : rtU (fU f.pl x y z - fU f.pl f.c0 f.c1 f.c2) (fW f.pl x y z - fW f.pl f.c0 f.c1 f.c2) f.an = U at *
    generalize hW : rtW (fU f.pl x y z - fU f.pl f.c0 f.c1 f.c2) (fW f.pl x y z - fW f.pl f.c0 f.c1 f.c2) f.an = W at *
    have e2 : rtB U W = true := decide_eq_true (by omega)
    have hA : rtU U W (-f.an) = nr (U * scC (-f.an) - W * scS (-f.an)) := by unfold rtU; rw [if_pos e2]
    have hB : rtW U W (-f.an) = nr (U * scS (-f.an) + W * scC (-f.an)) := by unfold rtW; rw [if_pos e2]
    rw [← hA, ← hB] at bk
    have cX : (rotF true f.pl f.c0 f.c1 f.c2 (rotF true f.pl f.c0 f.c1 f.c2 x y z f.an).x (rotF true f.pl f.c0 f.c1 f.c2 x y z f.an).y (rotF true f.pl f.c0 f.c1 f.c2 x y z f.an).z (-f.an)) = ⟨sX f.pl (rtU U W (-f.an) + fU f.pl f.c0 f.c1 f.c2) (rtW U W (-f.an) + fW f.pl f.c0 f.c1 f.c2) (fH f.pl x y z), sY f.pl (rtU U W (-f.an) + fU f.pl f.c0 f.c1 f.c2) (rtW U W (-f.an) + fW f.pl f.c0 f.c1 f.c2) (fH f.pl x y z), sZ f.pl (rtU U W (-f.an) + fU f.pl f.c0 f.c1 f.c2) (rtW U W (-f.an) + fW f.pl f.c0 f.c1 f.c2) (fH f.pl x y z), true⟩ := by
      show (⟨sX f.pl (tA f.pl f.c0 f.c1 f.c2 (tX f.pl f.c0 f.c1 f.c2 x y z f.an) (tY f.pl f.c0 f.c1 f.c2 x y z f.an) (tZ f.pl f.c0 f.c1 f.c2 x y z f.an) (-f.an)) (tB f.pl f.c0 f.c1 f.c2 (tX f.pl f.c0 f.c1 f.c2 x y z f.an) (tY f.pl f.c0 f.c1 f.c2 x y z f.an) (tZ f.pl f.c0 f.c1 f.c2 x y z f.an) (-f.an)) (fH f.pl (tX f.pl f.c0 f.c1 f.c2 x y z f.an) (tY f.pl f.c0 f.c1 f.c2 x y z f.an) (tZ f.pl f.c0 f.c1 f.c2 x y z f.an)),
        sY f.pl (tA f.pl f.c0 f.c1 f.c2 (tX f.pl f.c0 f.c1 f.c2 x y z f.an) (tY f.pl f.c0 f.c1 f.c2 x y z f.an) (tZ f.pl f.c0 f.c1 f.c2 x y z f.an) (-f.an)) (tB f.pl f.c0 f.c1 f.c2 (tX f.pl f.c0 f.c1 f.c2 x y z f.an) (tY f.pl f.c0 f.c1 f.c2 x y z f.an) (tZ f.pl f.c0 f.c1 f.c2 x y z f.an) (-f.an)) (fH f.pl (tX f.pl f.c0 f.c1 f.c2 x y z f.an) (tY f.pl f.c0 f.c1 f.c2 x y z f.an) (tZ f.pl f.c0 f.c1 f.c2 x y z f.an)),
        sZ f.pl (tA f.pl f.c0 f.c1 f.c2 (tX f.pl f.c0 f.c1 f.c2 x y z f.an) (tY f.pl f.c0 f.c1 f.c2 x y z f.an) (tZ f.pl f.c0 f.c1 f.c2 x y z f.an) (-f.an)) (tB f.pl f.c0 f.c1 f.c2 (tX f.pl f.c0 f.c1 f.c2 x y z f.an) (tY f.pl f.c0 f.c1 f.c2 x y z f.an) (tZ f.pl f.c0 f.c1 f.c2 x y z f.an) (-f.an)) (fH f.pl (tX f.pl f.c0 f.c1 f.c2 x y z f.an) (tY f.pl f.c0 f.c1 f.c2 x y z f.an) (tZ f.pl f.c0 f.c1 f.c2 x y z f.an)),
        tOk f.pl f.c0 f.c1 f.c2 (tX f.pl f.c0 f.c1 f.c2 x y z f.an) (tY f.pl f.c0 f.c1 f.c2 x y z f.an) (tZ f.pl f.c0 f.c1 f.c2 x y z f.an)⟩ : RotS) = _
      rw [t1, t2, t3, t4, e2]
    rw [cX]
    dsimp only
    generalize rtU U W (-f.an) = A at *
    generalize rtW U W (-f.an) = B at *
    clear cX t1 t2 t3 t4
    have k : f.pl = 17 ∨ f.pl = 18 ∨ f.pl = 19 := by omega
    rcases k with e | e | e <;> rw [e] at bk fa fb ⊢
    · have bk : (-1 ≤ A - (x - f.c0) ∧ A - (x - f.c0) ≤ 1) ∧ (-1 ≤ B - (y - f.c1) ∧ B - (y - f.c1) ≤ 1) := bk
      refine ⟨A + f.c0, B + f.c1, z, mapW_ok (x := A + f.c0) (y := B + f.c1) (z := z) rfl (wn_iff.2 ⟨by omega, by omega, by omega⟩), by omega, by omega, by omega, fun h => by cases h⟩
    · have bk : (-1 ≤ A - (z - f.c2) ∧ A - (z - f.c2) ≤ 1) ∧ (-1 ≤ B - (x - f.c0) ∧ B - (x - f.c0) ≤ 1) := bk
      refine ⟨B + f.c0, y, A + f.c2, mapW_ok (x := B + f.c0) (y := y) (z := A + f.c2) rfl (wn_iff.2 ⟨by omega, by omega, by omega⟩), by omega, by omega, by omega, fun h => by cases h⟩
    · have bk : (-1 ≤ A - (y - f.c1) ∧ A - (y - f.c1) ≤ 1) ∧ (-1 ≤ B - (z - f.c2) ∧ B - (z - f.c2) ≤ 1) := bk
      refine ⟨x, A + f.c1, B + f.c2, mapW_ok (x := x) (y := A + f.c1) (z := B + f.c2) rfl (wn_iff.2 ⟨by omega, by omega, by omega⟩), by omega, by omega, by omega, fun h => by cases h⟩
def mx (a y : Int) : Int := bif true then (if y > a then y else a) else (if y < a then y else a)
theorem mx_le {a y : Int} (ha : a ≤ 1) (hy : y ≤ 1) : mx a y ≤ 1 := by
  unfold mx
  rw [cond_true]
  split
  · exact hy
  · exact ha
end U
namespace Go.Proofs.YtgnknciihdajiaaDoor
open Go Go.HL U
attribute [local irreducible] hfun bodyT fragT
set_option maxHeartbeats 400000 in
set_option maxRecDepth 100000 in
theorem sFB : Sound Tryd.prog 9 SFS := by
  refine sound_of (C := CFB) tabFB Tryd.func9 (by kernel_rfl) (by decide +kernel) (by kernel_rfl) rfl ⟨sLight, sAwk, sNew, sFrm, sVec, sTo, sFrom, sSb2, trivial⟩ (loops0 (by kernel_rfl)) ?_
  intro hargs pars R h
  unfold SFS at h
  split at h
  case h_2 => exfalso; exact h
  rename_i l k
  obtain ⟨⟨hl, hk⟩, hq⟩ := h
  refine byVC (vcFB l k R) ⟨trivial, fun x1 e1 => ⟨fun _ => ⟨trivial, fun b eb => by rw [eb]; exact hq⟩, fun _ => ⟨trivial, fun x3 e3 => ⟨fun _ => ⟨trivial, fun b eb => by rw [eb]; exact hq⟩, fun _ => ⟨trivial, fun l1 el p1 ep => ?_⟩⟩⟩⟩⟩
  rw [el, ep]
  have h1 : inSrc l 0 := ⟨Int.le_refl _, hl⟩
  have h2 : inSrc k 0 := ⟨Int.le_refl _, hk⟩
  refine ⟨h1, ⟨(frZ, 0), ⟨okF_Z, h1⟩⟩, fun f hf => ⟨trivial, fun l2 el2 p2 ep2 => ?_⟩⟩
  rw [el2, ep2]
  have hf := hf.1
  have ok := And.intro (okF_O hf) (And.intro (okF_P hf).1 (B3_mono (okF_P hf).2 (C := 1073741824) (by decide)))
  refine ⟨⟨by decide, by decide, h2⟩, src_ex h2 (by decide), fun v hv => ⟨ok, ⟨_, rfl⟩, fun t et => ⟨ok, ⟨_, rfl⟩, fun s es => ⟨trivial, fun b eb => ?_⟩⟩⟩⟩
  have hv := hv.1
  have ob := orF_b hf
  have tk := toF_ok (o0 := oX f.1) (o1 := oY f.1) (o2 := oZ f.1) hf hv ob
  have et := et.trans tk
  clear tk
  obtain ⟨r1, r2, r3, er, d1, d2, d3, dz⟩ := back_all (o0 := oX f.1) (o1 := oY f.1) (o2 := oZ f.1) hf hv ob
  subst et
  have es : s = ⟨r1, r2, r3, 0⟩ := es.trans er
  subst es eb
  obtain ⟨v1, v2, v3'⟩ := hv
  refine fl rfl (fl rfl (fl rfl ⟨fun g => ?_, fun g => ⟨⟨⟨by dsimp only; omega, by dsimp only; omega, by dsimp only; omega⟩, ⟨by omega, by omega, by omega⟩⟩, fun x14 e14 x15 e15 x16 e16 => ?_⟩⟩))
  · obtain ⟨z1, z2, z3⟩ := dz (nt_f g)
    dsimp only
    rw [z1, z2, z3, v3]; exact hq
  · dsimp only at e14 e15 e16
    refine ⟨by omega, fun x17 e17 => ⟨by omega, fun x18 e18 => ⟨by omega, fun x19 e19 x20 e20 => ?_⟩⟩⟩
    have e20 : x20 = mx (mx (mx (mx (mx x14 x17) x15) x18) x16) x19 := e20
    have hm : x20 ≤ 1 := by
      rw [e20]
      exact mx_le (mx_le (mx_le (mx_le (mx_le (by omega) (by omega)) (by omega)) (by omega)) (by omega)) (by omega)
    rw [decide_eq_true hm]; exact hq
end Go.Proofs.YtgnknciihdajiaaDoor
