/-
  Package modal: Check (and the reference).
  Conditions: none.
-/
import Derived.Test.YtcfgklmpfkmdkaaM1
namespace U
open Go
def geta (L : List (List Int)) (i : Int) : Bool := el L i.toNat != 0
def seta (L : List (List Int)) (i : Int) : List (List Int) := L.set i.toNat [1]
def bad (r : List Int) : Bool := !(decide (65 ≤ lt r ∧ lt r ≤ 90) && vl (nm r))
def cl (r : List Int) : Bool := lt r == 71 || lt r == 77
def chk : List (List Int) → List (List Int) → List (List Int) → Int × (List (List Int) × List (List Int))
  | [], L, G => (0, L, G)
  | r :: l, L, G => if bad r then (1, L, G) else
    if !cl r then (if geta L (lt r - 65) then (7, L, G) else chk l (seta L (lt r - 65)) G) else
    if !isw (nm r) || (grp (lt r) (wv (nm r)) == 0) then (6, L, G) else
    if geta G (grp (lt r) (wv (nm r))) then (8, L, G) else chk l L (seta G (grp (lt r) (wv (nm r))))
def z26 : List (List Int) := List.replicate 26 [0]
def ckk (l : List (List Int)) : Int :=
  let x := chk l z26 z26
  if x.1 ≠ 0 then x.1 else if geta x.2.2 14 && (geta x.2.2 1 || geta x.2.2 13) then 8 else 0
/-- the reference: p are the values in front -/
def rchk : List (List Int) → List (List Int) → Int
  | _, [] => 0
  | p, r :: l => if bad r then 1 else
    if !cl r then (if fndB (lt r) p then 7 else rchk (p ++ [r]) l) else
    if !isw (nm r) || (grp (lt r) (wv (nm r)) == 0) then 6 else
    if decide (gof (grp (lt r) (wv (nm r))) p ≥ 0) then 8 else rchk (p ++ [r]) l
def rck (l : List (List Int)) : Int := if rchk [] l ≠ 0 then rchk [] l else if decide (gof 14 l ≥ 0) && (decide (gof 1 l ≥ 0) || decide (gof 13 l ≥ 0)) then 8 else 0
end U
namespace Go.Proofs.Ytcfgklmpfkmdkaa
open Go Go.HL U
def SCheck (hargs : List HV) (pars : List (List HC)) : SR :=
  match hargs, pars with
  | [.ce (.sl false [4, 4] l)], [] => .det (l.length ≤ 1000) ⟨.ce (.int .i64 (ckk l)), false, [], []⟩
  | _, _ => .fail
def anCheck : LAnn := ⟨[2, 3, 4, 10, 11, 12], [2, 3], [1000003, 1000004], false⟩
def LCheck (v : LV) : LR :=
  match v with
  | ([.ce (.int .i64 r), .ce (.ptr 1000003 0), .ce (.ptr 1000004 0), .ce (.sl false [4, 4] l), .ce (.int .i64 len), .ce (.int .i64 k)], [[.arr [0] G], [.arr [0] L]]) =>
    .alts (k = 0 ∧ len = (l.length : Int) ∧ l.length ≤ 1000 ∧ G.length = 26 ∧ L.length = 26)
      [((chk l L G).1 = 0 ∧ (chk l L G).2.2.length = 26, .exit 0, ([.ce (.int .i64 r), .ce (.ptr 1000003 0)], [[.arr [0] (chk l L G).2.2], [.arr [0] (chk l L G).2.1]])),
       ((chk l L G).1 ≠ 0, .ret, ([.ce (.int .i64 (chk l L G).1), .ce (.ptr 1000003 0)], [[.arr [0] (chk l L G).2.2], [.arr [0] (chk l L G).2.1]]))]
  | _ => .fail
def tabCheck : List (FuncId × HL.Spec) := [(37, SVl), (38, SCode), (29, SGroup)]
noncomputable def CCheck : Ctx := ⟨Try.prog, gam tabCheck, Try.f20.ntmps, [(4, anCheck, LCheck)], [3, 4]⟩
theorem vcCheck (l : List (List Int)) (Q : Res → Prop) : (nfun true CCheck Try.f20 (bodyOf Try.f20) [.ce (.sl false [4, 4] l)] [] Q) =
    (((0 : Int) = (0 : Int) ∧ (((List.length l) : Nat) : Int) = (((List.length l) : Nat) : Int) ∧ List.length l ≤ (1000 : Nat) ∧ (26 : Nat) = (26 : Nat) ∧ (26 : Nat) = (26 : Nat)) ∧ ((chk l (List.replicate (26 : Nat) (zrow [(0 : Nat)])) (List.replicate (26 : Nat) (zrow [(0 : Nat)]))).1 = (0 : Int) ∧ List.length (chk l (List.replicate (26 : Nat) (zrow [(0 : Nat)])) (List.replicate (26 : Nat) (zrow [(0 : Nat)]))).snd.2 = (26 : Nat) → ((0 : Int) ≤ (14 : Int) ∧ (14 : Int) < (26 : Int)) ∧ (14 : Nat) < List.length (chk l (List.replicate (26 : Nat) (zrow [(0 : Nat)])) (List.replicate (26 : Nat) (zrow [(0 : Nat)]))).snd.2 ∧ ((el (chk l (List.replicate (26 : Nat) (zrow [(0 : Nat)])) (List.replicate (26 : Nat) (zrow [(0 : Nat)]))).snd.2 ((14 : Nat)) != (0 : Int)) = true → ((0 : Int) ≤ (1 : Int) ∧ (1 : Int) < (26 : Int)) ∧ (1 : Nat) < List.length (chk l (List.replicate (26 : Nat) (zrow [(0 : Nat)])) (List.replicate (26 : Nat) (zrow [(0 : Nat)]))).snd.2 ∧
    ((el (chk l (List.replicate (26 : Nat) (zrow [(0 : Nat)])) (List.replicate (26 : Nat) (zrow [(0 : Nat)]))).snd.2 ((1 : Nat)) != (0 : Int)) = true → Q { val := HV.ce (HC.int IntKind.i64 (8 : Int)), own := false, pars := [], news := [] }) ∧ ((el (chk l (List.replicate (26 : Nat) (zrow [(0 : Nat)])) (List.replicate (26 : Nat) (zrow [(0 : Nat)]))).snd.2 ((1 : Nat)) != (0 : Int)) = false → ((0 : Int) ≤ (13 : Int) ∧ (13 : Int) < (26 : Int)) ∧ (13 : Nat) < List.length (chk l (List.replicate (26 : Nat) (zrow [(0 : Nat)])) (List.replicate (26 : Nat) (zrow [(0 : Nat)]))).snd.2 ∧ ((el (chk l (List.replicate (26 : Nat) (zrow [(0 : Nat)])) (List.replicate (26 : Nat) (zrow [(0 : Nat)]))).snd.2 ((13 : Nat)) != (0 : Int)) = true → Q { val := HV.ce (HC.int IntKind.i64 (8 : Int)), own := false, pars := [], news := [] }) ∧ ((el (chk l (List.replicate (26 : Nat) (zrow [(0 : Nat)])) (List.replicate (26 : Nat) (zrow [(0 : Nat)]))).snd.2 ((13 : Nat)) != (0 : Int)) = false →
    Q { val := HV.ce (HC.int IntKind.i64 (0 : Int)), own := false, pars := [], news := [] }))) ∧ ((el (chk l (List.replicate (26 : Nat) (zrow [(0 : Nat)])) (List.replicate (26 : Nat) (zrow [(0 : Nat)]))).snd.2 ((14 : Nat)) != (0 : Int)) = false → Q { val := HV.ce (HC.int IntKind.i64 (0 : Int)), own := false, pars := [], news := [] })) ∧ ((chk l (List.replicate (26 : Nat) (zrow [(0 : Nat)])) (List.replicate (26 : Nat) (zrow [(0 : Nat)]))).1 ≠ (0 : Int) → Q { val := HV.ce (HC.int IntKind.i64 (chk l (List.replicate (26 : Nat) (zrow [(0 : Nat)])) (List.replicate (26 : Nat) (zrow [(0 : Nat)]))).1), own := false, pars := [], news := [] })) := by kernel_rfl
theorem vbCheck (r len k : Int) (l G L : List (List Int)) (K : HEx → LV → Prop) : (nbodyT true CCheck anCheck (nthLoop Try.f20 0) (([.ce (.int .i64 r), .ce (.ptr 1000003 0), .ce (.ptr 1000004 0), .ce (.sl false [4, 4] l), .ce (.int .i64 len), .ce (.int .i64 k)], [[.arr [0] G], [.arr [0] L]])) K) =
    ((decide (k < len) = true → ((0 : Int) ≤ k ∧ k < (((List.length l) : Nat) : Int)) ∧ (decide (el l (Int.toNat k) < (65 : Int)) = true → K HEx.ret ([HV.ce (HC.int IntKind.i64 (1 : Int)), HV.ce (HC.ptr (1000003 : Nat) (0 : Nat))], [[HC.arr [(0 : Nat)] G], [HC.arr [(0 : Nat)] L]])) ∧ (decide (el l (Int.toNat k) < (65 : Int)) = false → (decide (el l (Int.toNat k) > (90 : Int)) = true → K HEx.ret ([HV.ce (HC.int IntKind.i64 (1 : Int)), HV.ce (HC.ptr (1000003 : Nat) (0 : Nat))], [[HC.arr [(0 : Nat)] G], [HC.arr [(0 : Nat)] L]])) ∧ (decide (el l (Int.toNat k) > (90 : Int)) = false → True ∧ ∀ (x1 : Bool), x1 = vl (ec l (Int.toNat k) ((1 : Nat))) → ((!x1) = true → K HEx.ret ([HV.ce (HC.int IntKind.i64 (1 : Int)), HV.ce (HC.ptr (1000003 : Nat) (0 : Nat))], [[HC.arr [(0 : Nat)] G], [HC.arr [(0 : Nat)] L]])) ∧ ((!x1) = false → ((el l (Int.toNat k) != (71 : Int)) = true → ((el l (Int.toNat k) != (77 : Int)) = true →
    ((-9223372036854775808 : Int) ≤ el l (Int.toNat k) - (65 : Int) ∧ el l (Int.toNat k) - (65 : Int) ≤ (9223372036854775807 : Int)) ∧ ∀ (x2 : Int), x2 = el l (Int.toNat k) - (65 : Int) → ((0 : Int) ≤ x2 ∧ x2 < (26 : Int)) ∧ Int.toNat x2 < List.length L ∧ ((el L (Int.toNat x2) != (0 : Int)) = true → K HEx.ret ([HV.ce (HC.int IntKind.i64 (7 : Int)), HV.ce (HC.ptr (1000003 : Nat) (0 : Nat))], [[HC.arr [(0 : Nat)] G], [HC.arr [(0 : Nat)] L]])) ∧ ((el L (Int.toNat x2) != (0 : Int)) = false → ((-9223372036854775808 : Int) ≤ el l (Int.toNat k) - (65 : Int) ∧ el l (Int.toNat k) - (65 : Int) ≤ (9223372036854775807 : Int)) ∧ ∀ (x3 : Int), x3 = el l (Int.toNat k) - (65 : Int) → ((0 : Int) ≤ x3 ∧ x3 < (26 : Int)) ∧ Int.toNat x3 < List.length L ∧ ((-9223372036854775808 : Int) ≤ k + (1 : Int) ∧ k + (1 : Int) ≤ (9223372036854775807 : Int)) ∧ ∀ (x4 : Int), x4 = k + (1 : Int) → K HEx.normal ([HV.ce (HC.int IntKind.i64 r), HV.ce (HC.ptr (1000003 : Nat) (0 : Nat)), HV.ce (HC.ptr (1000004 : Nat) (0 : Nat)), HV.ce (HC.sl false [(4 : Nat), (4 : Nat)] l), HV.ce (HC.int IntKind.i64 len), HV.ce (HC.int IntKind.i64 x4)], [[HC.arr [(0 : Nat)] G], [HC.arr [(0 : Nat)] (List.set L (Int.toNat x3) [bif true && true then (1 : Int) else el L (Int.toNat x3)])]]))) ∧
    ((el l (Int.toNat k) != (77 : Int)) = false → True ∧ ∀ (x5 : Int), x5 = wv (ec l (Int.toNat k) ((1 : Nat))) → ∀ (x6 : Bool), x6 = isc [el l (Int.toNat k), ec l (Int.toNat k) ((1 : Nat))] → True ∧ ∀ (x7 : Int), x7 = grp (el l (Int.toNat k)) x5 → ((!x6) = true → K HEx.ret ([HV.ce (HC.int IntKind.i64 (6 : Int)), HV.ce (HC.ptr (1000003 : Nat) (0 : Nat))], [[HC.arr [(0 : Nat)] G], [HC.arr [(0 : Nat)] L]])) ∧ ((!x6) = false → ((x7 == (0 : Int)) = true → K HEx.ret ([HV.ce (HC.int IntKind.i64 (6 : Int)), HV.ce (HC.ptr (1000003 : Nat) (0 : Nat))], [[HC.arr [(0 : Nat)] G], [HC.arr [(0 : Nat)] L]])) ∧ ((x7 == (0 : Int)) = false → ((0 : Int) ≤ x7 ∧ x7 < (26 : Int)) ∧ Int.toNat x7 < List.length G ∧ ((el G (Int.toNat x7) != (0 : Int)) = true → K HEx.ret ([HV.ce (HC.int IntKind.i64 (8 : Int)), HV.ce (HC.ptr (1000003 : Nat) (0 : Nat))], [[HC.arr [(0 : Nat)] G], [HC.arr [(0 : Nat)] L]])) ∧ ((el G (Int.toNat x7) != (0 : Int)) = false →
    ((0 : Int) ≤ x7 ∧ x7 < (26 : Int)) ∧ Int.toNat x7 < List.length G ∧ ((-9223372036854775808 : Int) ≤ k + (1 : Int) ∧ k + (1 : Int) ≤ (9223372036854775807 : Int)) ∧ ∀ (x8 : Int), x8 = k + (1 : Int) → K HEx.normal ([HV.ce (HC.int IntKind.i64 r), HV.ce (HC.ptr (1000003 : Nat) (0 : Nat)), HV.ce (HC.ptr (1000004 : Nat) (0 : Nat)), HV.ce (HC.sl false [(4 : Nat), (4 : Nat)] l), HV.ce (HC.int IntKind.i64 len), HV.ce (HC.int IntKind.i64 x8)], [[HC.arr [(0 : Nat)] (List.set G (Int.toNat x7) [bif true && true then (1 : Int) else el G (Int.toNat x7)])], [HC.arr [(0 : Nat)] L]])))))) ∧ ((el l (Int.toNat k) != (71 : Int)) = false → True ∧ ∀ (x9 : Int), x9 = wv (ec l (Int.toNat k) ((1 : Nat))) → ∀ (x10 : Bool), x10 = isc [el l (Int.toNat k), ec l (Int.toNat k) ((1 : Nat))] → True ∧ ∀ (x11 : Int), x11 = grp (el l (Int.toNat k)) x9 → ((!x10) = true → K HEx.ret ([HV.ce (HC.int IntKind.i64 (6 : Int)), HV.ce (HC.ptr (1000003 : Nat) (0 : Nat))], [[HC.arr [(0 : Nat)] G], [HC.arr [(0 : Nat)] L]])) ∧
    ((!x10) = false → ((x11 == (0 : Int)) = true → K HEx.ret ([HV.ce (HC.int IntKind.i64 (6 : Int)), HV.ce (HC.ptr (1000003 : Nat) (0 : Nat))], [[HC.arr [(0 : Nat)] G], [HC.arr [(0 : Nat)] L]])) ∧ ((x11 == (0 : Int)) = false → ((0 : Int) ≤ x11 ∧ x11 < (26 : Int)) ∧ Int.toNat x11 < List.length G ∧ ((el G (Int.toNat x11) != (0 : Int)) = true → K HEx.ret ([HV.ce (HC.int IntKind.i64 (8 : Int)), HV.ce (HC.ptr (1000003 : Nat) (0 : Nat))], [[HC.arr [(0 : Nat)] G], [HC.arr [(0 : Nat)] L]])) ∧ ((el G (Int.toNat x11) != (0 : Int)) = false → ((0 : Int) ≤ x11 ∧ x11 < (26 : Int)) ∧ Int.toNat x11 < List.length G ∧ ((-9223372036854775808 : Int) ≤ k + (1 : Int) ∧ k + (1 : Int) ≤ (9223372036854775807 : Int)) ∧ ∀ (x12 : Int), x12 = k + (1 : Int) → K HEx.normal ([HV.ce (HC.int IntKind.i64 r), HV.ce (HC.ptr (1000003 : Nat) (0 : Nat)), HV.ce (HC.ptr (1000004 : Nat) (0 : Nat)), HV.ce (HC.sl false [(4 : Nat), (4 : Nat)] l), HV.ce (HC.int IntKind.i64 len), HV.ce (HC.int IntKind.i64 x12)], [[HC.arr [(0 : Nat)] (List.set G (Int.toNat x11) [bif true && true then (1 : Int) else el G (Int.toNat x11)])], [HC.arr [(0 : Nat)] L]]))))))))) ∧
    (decide (k < len) = false → K (HEx.exit (0 : Nat)) ([HV.ce (HC.int IntKind.i64 r), HV.ce (HC.ptr (1000003 : Nat) (0 : Nat))], [[HC.arr [(0 : Nat)] G], [HC.arr [(0 : Nat)] L]]))) := by kernel_rfl
def anCheck2 : LAnn := ⟨[0, 2, 3], [0, 2], [], false⟩
def LCheck2 (v : LV) : LR :=
  match v with
  | ([.ce (.sl false [4, 4] l), .ce (.int .i64 r), .ce (.int .i64 k)], []) =>
    .alts (k = 0 ∧ l.length ≤ 1000) [(rchk [] l = 0, .exit 0, ([.ce (.sl false [4, 4] l), .ce (.int .i64 r)], [])), (rchk [] l ≠ 0, .ret, ([.ce (.sl false [4, 4] l), .ce (.int .i64 (rchk [] l))], []))]
  | _ => .fail
def tabCheck2 : List (FuncId × HL.Spec) := [(39, SVl), (40, SWhole), (30, SGroup), (34, SFind), (41, SGof)]
noncomputable def CCheck2 : Ctx := ⟨Try.prog, gam tabCheck2, Try.f21.ntmps, [(2, anCheck2, LCheck2)], []⟩
theorem vcCheck2 (l : List (List Int)) (Q : Res → Prop) : (nfun true CCheck2 Try.f21 (bodyOf Try.f21) [.ce (.sl false [4, 4] l)] [] Q) =
    (((0 : Int) = (0 : Int) ∧ List.length l ≤ (1000 : Nat)) ∧ (rchk [] l = (0 : Int) → List.length l ≤ (1000 : Nat) ∧ ∀ (x1 : Int), x1 = gof (14 : Int) l → (decide (x1 ≥ (0 : Int)) = true → List.length l ≤ (1000 : Nat) ∧ ∀ (x2 : Int), x2 = gof (1 : Int) l → (decide (x2 ≥ (0 : Int)) = true → Q { val := HV.ce (HC.int IntKind.i64 (8 : Int)), own := false, pars := [], news := [] }) ∧ (decide (x2 ≥ (0 : Int)) = false → List.length l ≤ (1000 : Nat) ∧ ∀ (x3 : Int), x3 = gof (13 : Int) l → (decide (x3 ≥ (0 : Int)) = true → Q { val := HV.ce (HC.int IntKind.i64 (8 : Int)), own := false, pars := [], news := [] }) ∧ (decide (x3 ≥ (0 : Int)) = false → Q { val := HV.ce (HC.int IntKind.i64 (0 : Int)), own := false, pars := [], news := [] }))) ∧ (decide (x1 ≥ (0 : Int)) = false → Q { val := HV.ce (HC.int IntKind.i64 (0 : Int)), own := false, pars := [], news := [] })) ∧ (rchk [] l ≠ (0 : Int) → Q { val := HV.ce (HC.int IntKind.i64 (rchk [] l)), own := false, pars := [], news := [] })) := by kernel_rfl
theorem vbCheck2 (r k : Int) (l : List (List Int)) (K : HEx → LV → Prop) : (nbodyT true CCheck2 anCheck2 (nthLoop Try.f21 0) (([.ce (.sl false [4, 4] l), .ce (.int .i64 r), .ce (.int .i64 k)], [])) K) =
    ((decide (k < (((List.length l) : Nat) : Int)) = true → ((0 : Int) ≤ k ∧ k < (((List.length l) : Nat) : Int)) ∧ ∀ (x1 : Int), x1 = el l (Int.toNat k) → (decide (x1 < (65 : Int)) = true → K HEx.ret ([HV.ce (HC.sl false [(4 : Nat), (4 : Nat)] l), HV.ce (HC.int IntKind.i64 (1 : Int))], [])) ∧ (decide (x1 < (65 : Int)) = false → (decide (x1 > (90 : Int)) = true → K HEx.ret ([HV.ce (HC.sl false [(4 : Nat), (4 : Nat)] l), HV.ce (HC.int IntKind.i64 (1 : Int))], [])) ∧ (decide (x1 > (90 : Int)) = false → ((0 : Int) ≤ k ∧ k < (((List.length l) : Nat) : Int)) ∧ ∀ (x2 : Int), x2 = ec l (Int.toNat k) ((1 : Nat)) → True ∧ ∀ (x3 : Bool), x3 = vl x2 → ((!x3) = true → K HEx.ret ([HV.ce (HC.sl false [(4 : Nat), (4 : Nat)] l), HV.ce (HC.int IntKind.i64 (1 : Int))], [])) ∧ ((!x3) = false → ((x1 != (71 : Int)) = true → ((x1 != (77 : Int)) = true → ((0 : Int) ≤ k ∧ k ≤ (((List.length l) : Nat) : Int)) ∧ List.length (List.take (Int.toNat k) l) ≤ (1000 : Nat) ∧
    ∀ (x4 : Int), x4 = fndN x1 (List.take (Int.toNat k) l) → ∀ (x5 : Bool), x5 = fndB x1 (List.take (Int.toNat k) l) → (x5 = true → K HEx.ret ([HV.ce (HC.sl false [(4 : Nat), (4 : Nat)] l), HV.ce (HC.int IntKind.i64 (7 : Int))], [])) ∧ (x5 = false → ((-9223372036854775808 : Int) ≤ k + (1 : Int) ∧ k + (1 : Int) ≤ (9223372036854775807 : Int)) ∧ ∀ (x6 : Int), x6 = k + (1 : Int) → K HEx.normal ([HV.ce (HC.sl false [(4 : Nat), (4 : Nat)] l), HV.ce (HC.int IntKind.i64 r), HV.ce (HC.int IntKind.i64 x6)], []))) ∧ ((x1 != (77 : Int)) = false → ((0 : Int) ≤ k ∧ k < (((List.length l) : Nat) : Int)) ∧ ∀ (x7 : Int), x7 = ec l (Int.toNat k) ((1 : Nat)) → True ∧ ∀ (x8 : Int), x8 = wv x7 → ∀ (x9 : Bool), x9 = isw x7 → ((!x9) = true → K HEx.ret ([HV.ce (HC.sl false [(4 : Nat), (4 : Nat)] l), HV.ce (HC.int IntKind.i64 (6 : Int))], [])) ∧ ((!x9) = false → True ∧ ∀ (x10 : Int), x10 = grp x1 x8 → ((x10 == (0 : Int)) = true →
    K HEx.ret ([HV.ce (HC.sl false [(4 : Nat), (4 : Nat)] l), HV.ce (HC.int IntKind.i64 (6 : Int))], [])) ∧ ((x10 == (0 : Int)) = false → ((0 : Int) ≤ k ∧ k ≤ (((List.length l) : Nat) : Int)) ∧ True ∧ ∀ (x11 : Int), x11 = grp x1 x8 → List.length (List.take (Int.toNat k) l) ≤ (1000 : Nat) ∧ ∀ (x12 : Int), x12 = gof x11 (List.take (Int.toNat k) l) → (decide (x12 ≥ (0 : Int)) = true → K HEx.ret ([HV.ce (HC.sl false [(4 : Nat), (4 : Nat)] l), HV.ce (HC.int IntKind.i64 (8 : Int))], [])) ∧ (decide (x12 ≥ (0 : Int)) = false → ((-9223372036854775808 : Int) ≤ k + (1 : Int) ∧ k + (1 : Int) ≤ (9223372036854775807 : Int)) ∧ ∀ (x13 : Int), x13 = k + (1 : Int) → K HEx.normal ([HV.ce (HC.sl false [(4 : Nat), (4 : Nat)] l), HV.ce (HC.int IntKind.i64 r), HV.ce (HC.int IntKind.i64 x13)], [])))))) ∧ ((x1 != (71 : Int)) = false → ((0 : Int) ≤ k ∧ k < (((List.length l) : Nat) : Int)) ∧ ∀ (x14 : Int), x14 = ec l (Int.toNat k) ((1 : Nat)) →
    True ∧ ∀ (x15 : Int), x15 = wv x14 → ∀ (x16 : Bool), x16 = isw x14 → ((!x16) = true → K HEx.ret ([HV.ce (HC.sl false [(4 : Nat), (4 : Nat)] l), HV.ce (HC.int IntKind.i64 (6 : Int))], [])) ∧ ((!x16) = false → True ∧ ∀ (x17 : Int), x17 = grp x1 x15 → ((x17 == (0 : Int)) = true → K HEx.ret ([HV.ce (HC.sl false [(4 : Nat), (4 : Nat)] l), HV.ce (HC.int IntKind.i64 (6 : Int))], [])) ∧ ((x17 == (0 : Int)) = false → ((0 : Int) ≤ k ∧ k ≤ (((List.length l) : Nat) : Int)) ∧ True ∧ ∀ (x18 : Int), x18 = grp x1 x15 → List.length (List.take (Int.toNat k) l) ≤ (1000 : Nat) ∧ ∀ (x19 : Int), x19 = gof x18 (List.take (Int.toNat k) l) → (decide (x19 ≥ (0 : Int)) = true → K HEx.ret ([HV.ce (HC.sl false [(4 : Nat), (4 : Nat)] l), HV.ce (HC.int IntKind.i64 (8 : Int))], [])) ∧ (decide (x19 ≥ (0 : Int)) = false → ((-9223372036854775808 : Int) ≤ k + (1 : Int) ∧ k + (1 : Int) ≤ (9223372036854775807 : Int)) ∧ ∀ (x20 : Int), x20 = k + (1 : Int) →
    K HEx.normal ([HV.ce (HC.sl false [(4 : Nat), (4 : Nat)] l), HV.ce (HC.int IntKind.i64 r), HV.ce (HC.int IntKind.i64 x20)], []))))))))) ∧ (decide (k < (((List.length l) : Nat) : Int)) = false → K (HEx.exit (0 : Nat)) ([HV.ce (HC.sl false [(4 : Nat), (4 : Nat)] l), HV.ce (HC.int IntKind.i64 r)], []))) := by kernel_rfl
end Go.Proofs.Ytcfgklmpfkmdkaa
namespace U
open Go
theorem scn_le (c : Int) : ∀ (l : List (List (List Int))) (i : Int), scn c l i = 0 ∨ (i ≤ scn c l i ∧ scn c l i < i + (l.length : Int))
  | [], i => .inl rfl
  | g :: r, i => by
    rw [scn_cons]
    rw [List.length_cons]
    split
    · right; omega
    · rcases scn_le c r (i + 1) with h | h
      · exact .inl h
      · right; omega
theorem prep_bd (c : Int) : 0 ≤ prep c ∧ prep c ≤ 14 := by
  have h := scn_le c glit 1
  have e : glit.length = 14 := rfl
  rw [e] at h
  unfold prep
  omega
theorem misc_bd (c : Int) : 0 ≤ misc c ∧ misc c ≤ 25 := by
  unfold misc
  repeat' split
  all_goals omega
theorem grp_bd (l c : Int) : 0 ≤ grp l c ∧ grp l c ≤ 25 := by
  unfold grp
  split
  · have := prep_bd c; omega
  · split
    · exact misc_bd c
    · omega
theorem chk_cons {r : List Int} {l L G : List (List Int)} {a n : Int} (ha : lt r = a) (hn : nm r = n) : chk (r :: l) L G = (if !(decide (65 ≤ a ∧ a ≤ 90) && vl n) then (1, L, G) else
    if !(a == 71 || a == 77) then (if geta L (a - 65) then (7, L, G) else chk l (seta L (a - 65)) G) else
    if !isw n || (grp a (wv n) == 0) then (6, L, G) else
    if geta G (grp a (wv n)) then (8, L, G) else chk l L (seta G (grp a (wv n)))) := by subst ha hn; rfl
theorem rchk_cons {r : List Int} {p l : List (List Int)} {a n : Int} (ha : lt r = a) (hn : nm r = n) : rchk p (r :: l) = (if !(decide (65 ≤ a ∧ a ≤ 90) && vl n) then 1 else
    if !(a == 71 || a == 77) then (if fndB a p then 7 else rchk (p ++ [r]) l) else
    if !isw n || (grp a (wv n) == 0) then 6 else
    if decide (gof (grp a (wv n)) p ≥ 0) then 8 else rchk (p ++ [r]) l) := by subst ha hn; rfl
end U
namespace Go.Proofs.Ytcfgklmpfkmdkaa
open Go Go.HL U
set_option maxRecDepth 100000 in
theorem loopCheck : ∀ v Q, (LCheck v).wp Q → hloop CCheck anCheck (nthLoop Try.f20 0) v Q := by
  intro v Q h
  unfold LCheck at h
  split at h
  case h_2 => exact h.elim
  rename_i r l len k G0 L0
  obtain ⟨⟨h1, h2, h3, h4, h5⟩, hq1, hq2⟩ := h
  subst h1 h2
  refine hloop_rec (σ := Nat × List (List Int) × List (List Int)) (fun s => ([.ce (.int .i64 r), .ce (.ptr 1000003 0), .ce (.ptr 1000004 0), .ce (.sl false [4, 4] l), .ce (.int .i64 (l.length : Int)), .ce (.int .i64 (s.1 : Int))], [[.arr [0] s.2.2], [.arr [0] s.2.1]])) (fun s => l.length - s.1)
    (fun s => s.1 ≤ l.length ∧ chk l L0 G0 = chk (l.drop s.1) s.2.1 s.2.2 ∧ s.2.1.length = 26 ∧ s.2.2.length = 26) ?_ (0, L0, G0) ⟨Nat.zero_le _, rfl, h5, h4⟩
  rintro ⟨j, L, G⟩ ⟨hj, hp, hL, hG⟩ K hn he hr
  dsimp only at hj hp hL hG hn
  refine byVB (vbCheck r _ j l G L K) ⟨fun hlt => ⟨by have := of_decide_eq_true hlt; omega, ?_⟩, fun hge => ?_⟩
  · have hlt := of_decide_eq_true hlt
    have hjl : j < l.length := by omega
    rw [drop_cons l hjl] at hp
    rw [chk_cons (lt_el l j) (nm_ec l j)] at hp
    have ej : ((j : Nat) : Int).toNat = j := by omega
    rw [ej]
    have hrow : ∀ a n : Int, isc [a, n] = (isw n && (a == 71 || a == 77)) := fun a n => rfl
    generalize el l j = a at *
    generalize ec l j 1 = n at *
    have ret : ∀ e : Int, chk l L0 G0 = (e, L, G) → e ≠ 0 → K .ret ([.ce (.int .i64 e), .ce (.ptr 1000003 0)], [[.arr [0] G], [.arr [0] L]]) := by
      intro e h1 h2
      have := hq2 (by rw [h1]; exact h2)
      rw [h1] at this
      exact hr _ this
    have next : ∀ (L' G' : List (List Int)) (x : Int), x = (j : Int) + 1 → chk l L0 G0 = chk (l.drop (j + 1)) L' G' → L'.length = 26 → G'.length = 26 →
        K .normal ([.ce (.int .i64 r), .ce (.ptr 1000003 0), .ce (.ptr 1000004 0), .ce (.sl false [4, 4] l), .ce (.int .i64 (l.length : Int)), .ce (.int .i64 x)], [[.arr [0] G'], [.arr [0] L']]) := by
      intro L' G' x hx h1 h2 h3
      rw [show x = ((j + 1 : Nat) : Int) by omega]
      exact hn (j + 1, L', G') ⟨by dsimp only; omega, h1, h2, h3⟩ (by dsimp only; omega)
    clear hn he hr hq1 hq2
    refine ⟨fun k1 => ret 1 ?_ (by omega), fun k1 => ⟨fun k2 => ret 1 ?_ (by omega), fun k2 => ⟨trivial, fun x1 e1 => ⟨fun k3 => ret 1 ?_ (by omega), fun k3 => ?_⟩⟩⟩⟩
    · have k1 := of_decide_eq_true k1
      rw [hp, decide_eq_false (by omega)]; rfl
    · have k2 := of_decide_eq_true k2
      rw [hp, decide_eq_false (by omega)]; rfl
    · have k3 : vl n = false := by rw [← e1]; simpa using k3
      rw [hp, k3, Bool.and_false]; rfl
    have k1 := of_decide_eq_false k1
    have k2 := of_decide_eq_false k2
    have k3 : vl n = true := by rw [← e1]; simpa using k3
    rw [decide_eq_true (by omega), k3] at hp
    simp only [Bool.true_and, Bool.not_true, Bool.false_eq_true, if_false] at hp
    have gb := grp_bd a (wv n)
    -- a code
    have code : (a == 71 || a == 77) = true → True ∧ ∀ x5 : Int, x5 = wv n → ∀ x6 : Bool, x6 = isc [a, n] → True ∧ ∀ x7 : Int, x7 = grp a x5 →
        ((!x6) = true → K .ret ([.ce (.int .i64 6), .ce (.ptr 1000003 0)], [[.arr [0] G], [.arr [0] L]])) ∧ ((!x6) = false →
        ((x7 == 0) = true → K .ret ([.ce (.int .i64 6), .ce (.ptr 1000003 0)], [[.arr [0] G], [.arr [0] L]])) ∧ ((x7 == 0) = false → (0 ≤ x7 ∧ x7 < 26) ∧ x7.toNat < G.length ∧
          ((el G x7.toNat != 0) = true → K .ret ([.ce (.int .i64 8), .ce (.ptr 1000003 0)], [[.arr [0] G], [.arr [0] L]])) ∧ ((el G x7.toNat != 0) = false → (0 ≤ x7 ∧ x7 < 26) ∧ x7.toNat < G.length ∧ (-9223372036854775808 ≤ (j : Int) + 1 ∧ (j : Int) + 1 ≤ 9223372036854775807) ∧
            ∀ x8 : Int, x8 = (j : Int) + 1 → K .normal ([.ce (.int .i64 r), .ce (.ptr 1000003 0), .ce (.ptr 1000004 0), .ce (.sl false [4, 4] l), .ce (.int .i64 (l.length : Int)), .ce (.int .i64 x8)], [[.arr [0] (List.set G x7.toNat [1])], [.arr [0] L]])))) := by
      intro hc
      rw [hc] at hp
      simp only [Bool.not_true, Bool.false_eq_true, if_false] at hp
      refine ⟨trivial, fun x5 e5 x6 e6 => ⟨trivial, fun x7 e7 => ?_⟩⟩
      rw [hrow, hc, Bool.and_true] at e6
      rw [← e6] at hp
      rw [← e5, ← e7] at hp
      rw [← e5, ← e7] at gb
      refine ⟨fun q1 => ret 6 (by rw [hp, q1]; rfl) (by omega), fun q1 => ⟨fun q2 => ret 6 (by rw [hp, q2, Bool.or_true]; rfl) (by omega), fun q2 => ⟨by omega, by omega, fun q3 => ret 8 ?_ (by omega), fun q3 => ⟨by omega, by omega, by omega, fun x8 e8 => next L _ x8 e8 ?_ hL (by rw [List.length_set]; exact hG)⟩⟩⟩⟩
      · rw [hp, q1, q2, show geta G x7 = true from q3]; rfl
      · rw [hp, q1, q2, show geta G x7 = false from q3]; rfl
    refine ⟨fun k4 => ⟨fun k5 => ⟨by omega, fun x2 e2 => ⟨by omega, by omega, fun q => ret 7 ?_ (by omega), fun q => ⟨by omega, fun x3 e3 => ⟨by omega, by omega, by omega, fun x4 e4 => next _ G x4 e4 ?_ (by rw [List.length_set]; exact hL) hG⟩⟩⟩⟩, fun k5 => code ?_⟩, fun k4 => code ?_⟩
    · have : (a == 71 || a == 77) = false := by simp_all
      rw [this] at hp
      rw [hp, ← e2, show geta L x2 = true from q]; rfl
    · have : (a == 71 || a == 77) = false := by simp_all
      rw [this] at hp
      rw [hp, ← e2, show geta L x2 = false from q]
      rw [show x3 = x2 by omega]; rfl
    · simp_all
    · simp_all
  · have hge := of_decide_eq_false hge
    have : j = l.length := by omega
    subst this
    rw [List.drop_length] at hp
    have := hq1 ⟨by rw [hp]; rfl, by rw [hp]; exact hG⟩
    rw [hp] at this
    exact he _ _ this
set_option maxHeartbeats 400000 in
set_option maxRecDepth 100000 in
theorem sCheck : Sound Try.prog 20 SCheck := by
  refine sound_of (C := CCheck) tabCheck Try.func20 (by kernel_rfl) (by decide +kernel) (by kernel_rfl) rfl ⟨sVl, sCode, sGroup, trivial⟩ (loops1 (by kernel_rfl) (loopOK_of (an := anCheck) (S := LCheck) (by kernel_rfl) loopCheck)) ?_
  intro hargs pars R h
  unfold SCheck at h
  split at h
  case h_2 => exfalso; exact h
  rename_i l
  have hq := h.2
  have h := h.1
  unfold ckk at hq
  dsimp only at hq
  refine byVC (vcCheck l R) ⟨⟨rfl, rfl, h, rfl, rfl⟩, ?_, ?_⟩
  · show (chk l z26 z26).1 = 0 ∧ (chk l z26 z26).2.2.length = 26 → _
    rintro ⟨a1, a2⟩
    rw [if_neg (by omega)] at hq
    refine ⟨by omega, by rw [show (List.replicate 26 (zrow [0])) = z26 from rfl]; omega, fun q1 => ⟨by omega, by rw [show (List.replicate 26 (zrow [0])) = z26 from rfl]; omega, fun q2 => ?_, fun q2 => ⟨by omega, by rw [show (List.replicate 26 (zrow [0])) = z26 from rfl]; omega, fun q3 => ?_, fun q3 => ?_⟩⟩, fun q1 => ?_⟩
    · rw [show geta (chk l z26 z26).2.2 14 = true from q1, show geta (chk l z26 z26).2.2 1 = true from q2] at hq; exact hq
    · rw [show geta (chk l z26 z26).2.2 14 = true from q1, show geta (chk l z26 z26).2.2 1 = false from q2, show geta (chk l z26 z26).2.2 13 = true from q3] at hq; exact hq
    · rw [show geta (chk l z26 z26).2.2 14 = true from q1, show geta (chk l z26 z26).2.2 1 = false from q2, show geta (chk l z26 z26).2.2 13 = false from q3] at hq; exact hq
    · rw [show geta (chk l z26 z26).2.2 14 = false from q1] at hq; exact hq
  · show (chk l z26 z26).1 ≠ 0 → R ⟨.ce (.int .i64 (chk l z26 z26).1), false, [], []⟩
    intro a1
    rw [if_pos a1] at hq
    exact hq
set_option maxRecDepth 100000 in
theorem loopCheck2 : ∀ v Q, (LCheck2 v).wp Q → hloop CCheck2 anCheck2 (nthLoop Try.f21 0) v Q := by
  intro v Q h
  unfold LCheck2 at h
  split at h
  case h_2 => exact h.elim
  rename_i l r k
  obtain ⟨⟨h1, h3⟩, hq1, hq2⟩ := h
  subst h1
  refine hloop_rec (σ := Nat) (fun j => ([.ce (.sl false [4, 4] l), .ce (.int .i64 r), .ce (.int .i64 (j : Int))], [])) (fun j => l.length - j)
    (fun j => j ≤ l.length ∧ rchk [] l = rchk (l.take j) (l.drop j)) ?_ 0 ⟨Nat.zero_le _, rfl⟩
  rintro j ⟨hj, hp⟩ K hn he hr
  refine byVB (vbCheck2 r j l K) ⟨fun hlt => ⟨by have := of_decide_eq_true hlt; omega, fun x1 e1 => ?_⟩, fun hge => ?_⟩
  · have hlt := of_decide_eq_true hlt
    have hjl : j < l.length := by omega
    rw [drop_cons l hjl] at hp
    rw [rchk_cons (lt_el l j) (nm_ec l j)] at hp
    have ej : ((j : Nat) : Int).toNat = j := by omega
    rw [ej] at e1 ⊢
    have e1 : x1 = el l j := e1
    rw [← e1] at hp
    have htk : l.take j ++ [l.getD j []] = l.take (j + 1) := by
      rw [List.take_add_one]
      congr 1
      simp [List.getD_eq_getElem?_getD, hjl]
    rw [htk] at hp
    have ret : ∀ e : Int, rchk [] l = e → e ≠ 0 → K .ret ([.ce (.sl false [4, 4] l), .ce (.int .i64 e)], []) := by
      intro e h1 h2
      have := hq2 (by rw [h1]; exact h2)
      rw [h1] at this
      exact hr _ this
    have next : ∀ x : Int, x = (j : Int) + 1 → rchk [] l = rchk (l.take (j + 1)) (l.drop (j + 1)) → K .normal ([.ce (.sl false [4, 4] l), .ce (.int .i64 r), .ce (.int .i64 x)], []) := by
      intro x hx h1
      rw [show x = ((j + 1 : Nat) : Int) by omega]
      exact hn (j + 1) ⟨by omega, h1⟩ (by omega)
    have hlen : (l.take j).length ≤ 1000 := by rw [List.length_take]; omega
    clear hn he hr hq1 hq2
    refine ⟨fun k1 => ret 1 ?_ (by omega), fun k1 => ⟨fun k2 => ret 1 ?_ (by omega), fun k2 => ⟨by omega, fun x2 e2 => ⟨trivial, fun x3 e3 => ⟨fun k3 => ret 1 ?_ (by omega), fun k3 => ?_⟩⟩⟩⟩⟩
    · have k1 := of_decide_eq_true k1
      rw [hp, decide_eq_false (by omega)]; rfl
    · have k2 := of_decide_eq_true k2
      rw [hp, decide_eq_false (by omega)]; rfl
    · have k3 : vl (ec l j 1) = false := by rw [← e2, ← e3]; simpa using k3
      rw [hp, k3, Bool.and_false]; rfl
    have k1 := of_decide_eq_false k1
    have k2 := of_decide_eq_false k2
    have k3 : vl (ec l j 1) = true := by rw [← e2, ← e3]; simpa using k3
    rw [decide_eq_true (by omega), k3] at hp
    simp only [Bool.true_and, Bool.not_true, Bool.false_eq_true, if_false] at hp
    have code : (x1 == 71 || x1 == 77) = true → (0 ≤ (j : Int) ∧ (j : Int) < (l.length : Int)) ∧ ∀ x7 : Int, x7 = ec l j 1 → True ∧ ∀ x8 : Int, x8 = wv x7 → ∀ x9 : Bool, x9 = isw x7 →
        ((!x9) = true → K .ret ([.ce (.sl false [4, 4] l), .ce (.int .i64 6)], [])) ∧ ((!x9) = false → True ∧ ∀ x10 : Int, x10 = grp x1 x8 →
        ((x10 == 0) = true → K .ret ([.ce (.sl false [4, 4] l), .ce (.int .i64 6)], [])) ∧ ((x10 == 0) = false → (0 ≤ (j : Int) ∧ (j : Int) ≤ (l.length : Int)) ∧ True ∧ ∀ x11 : Int, x11 = grp x1 x8 → (l.take j).length ≤ 1000 ∧
          ∀ x12 : Int, x12 = gof x11 (l.take j) → (decide (x12 ≥ 0) = true → K .ret ([.ce (.sl false [4, 4] l), .ce (.int .i64 8)], [])) ∧ (decide (x12 ≥ 0) = false →
            (-9223372036854775808 ≤ (j : Int) + 1 ∧ (j : Int) + 1 ≤ 9223372036854775807) ∧ ∀ x13 : Int, x13 = (j : Int) + 1 → K .normal ([.ce (.sl false [4, 4] l), .ce (.int .i64 r), .ce (.int .i64 x13)], [])))) := by
      intro hc
      rw [hc] at hp
      simp only [Bool.not_true, Bool.false_eq_true, if_false] at hp
      refine ⟨by omega, fun x7 e7 => ⟨trivial, fun x8 e8 x9 e9 => ?_⟩⟩
      rw [← e7, ← e8, ← e9] at hp
      refine ⟨fun q1 => ret 6 (by rw [hp, q1]; rfl) (by omega), fun q1 => ⟨trivial, fun x10 e10 => ?_⟩⟩
      rw [← e10] at hp
      refine ⟨fun q2 => ret 6 (by rw [hp, q2, Bool.or_true]; rfl) (by omega), fun q2 => ⟨by omega, trivial, fun x11 e11 => ⟨hlen, fun x12 e12 => ?_⟩⟩⟩
      rw [← e10] at e11
      subst e11
      rw [← e12] at hp
      refine ⟨fun q3 => ret 8 (by rw [hp, q1, q2, q3]; rfl) (by omega), fun q3 => ⟨by omega, fun x13 e13 => next x13 e13 (by rw [hp, q1, q2, q3]; rfl)⟩⟩
    refine ⟨fun k4 => ⟨fun k5 => ⟨by omega, hlen, fun x4 e4 x5 e5 => ⟨fun q => ret 7 ?_ (by omega), fun q => ⟨by omega, fun x6 e6 => next x6 e6 ?_⟩⟩⟩, fun k5 => code ?_⟩, fun k4 => code ?_⟩
    · have : (x1 == 71 || x1 == 77) = false := by simp_all
      rw [this] at hp
      rw [hp, ← e5, q]; rfl
    · have : (x1 == 71 || x1 == 77) = false := by simp_all
      rw [this] at hp
      rw [hp, ← e5, q]; rfl
    · simp_all
    · simp_all
  · have hge := of_decide_eq_false hge
    have : j = l.length := by omega
    subst this
    rw [List.drop_length] at hp
    exact he _ _ (hq1 hp)
end Go.Proofs.Ytcfgklmpfkmdkaa
namespace U
open Go
theorem amg_nonneg {c : Int} {l : List (List Int)} (hl : ∀ r ∈ l, (0 : Int) ≤ r.getD 0 0) (h : amg c l = true) : 0 ≤ c := by
  induction l with
  | nil => cases h
  | cons r l ih =>
    rw [amg_cons] at h
    rcases Bool.or_eq_true_iff.1 h with h | h
    · have := hl r (by simp)
      have e : r.getD 0 0 = c := by simpa using h
      omega
    · exact ih (fun r hr => hl r (List.mem_cons_of_mem _ hr)) h
theorem scn_nonneg {c : Int} : ∀ (l : List (List (List Int))) (i : Int), (∀ g ∈ l, ∀ r ∈ g, (0 : Int) ≤ r.getD 0 0) → scn c l i ≠ 0 → 0 ≤ c
  | [], i, _, h => absurd rfl h
  | g :: l, i, hl, h => by
    rw [scn_cons] at h
    split at h
    · rename_i ha; exact amg_nonneg (hl g (by simp)) ha
    · exact scn_nonneg l (i + 1) (fun g hg => hl g (List.mem_cons_of_mem _ hg)) h
theorem grp_nonneg {l c : Int} (h : grp l c ≠ 0) : 0 ≤ c := by
  unfold grp at h
  split at h
  · exact scn_nonneg glit 1 (by decide) h
  · split at h
    · unfold misc at h
      split at h
      · rename_i ha; exact amg_nonneg (by decide) ha
      · split at h
        · rename_i ha; exact amg_nonneg (by decide) ha
        · split at h
          · omega
          · split at h
            · rename_i ha; exact amg_nonneg (by decide) ha
            · split at h
              · omega
              · exact absurd rfl h
    · exact absurd rfl h
/-- does a block hold a code of the group g -/
def fdg (g : Int) (l : List (List Int)) : Bool := l.any fun r => isw (nm r) && (grp (lt r) (wv (nm r)) == g)
theorem gof_fdg {g : Int} (hg : 1 ≤ g) : ∀ l : List (List Int), decide (gof g l ≥ 0) = fdg g l
  | [] => rfl
  | r :: l => by
    rw [gof_cons]
    unfold fdg
    rw [List.any_cons]
    cases hm : (isw (nm r) && (grp (lt r) (wv (nm r)) == g)) with
    | true =>
      rw [if_pos rfl, Bool.true_or]
      rw [Bool.and_eq_true] at hm
      have e : grp (lt r) (wv (nm r)) = g := by simpa using hm.2
      exact decide_eq_true (grp_nonneg (l := lt r) (by rw [e]; omega))
    | false =>
      rw [if_neg (by simp), Bool.false_or]
      exact gof_fdg hg l
theorem fdg_append (g : Int) (a b : List (List Int)) : fdg g (a ++ b) = (fdg g a || fdg g b) := by unfold fdg; rw [List.any_append]
theorem fndB_append (c : Int) : ∀ a b : List (List Int), fndB c (a ++ b) = (fndB c a || fndB c b)
  | [], b => by unfold fndB; rfl
  | r :: a, b => by
    rw [List.cons_append]
    have h1 : ∀ l, fndB c (r :: l) = (if lt r = c then true else fndB c l) := fun l => by
      unfold fndB
      rw [show fnd c (r :: l) = (if lt r = c then some (nm r) else fnd c l) from rfl]
      by_cases h : lt r = c
      · rw [if_pos h, if_pos h]
      · rw [if_neg h, if_neg h]
    rw [h1, h1]
    by_cases h : lt r = c
    · rw [if_pos h, if_pos h]; rfl
    · rw [if_neg h, if_neg h]; exact fndB_append c a b
theorem fndB_one (c : Int) (r : List Int) : fndB c [r] = (lt r == c) := by
  unfold fndB
  rw [show fnd c [r] = (if lt r = c then some (nm r) else none) from rfl]
  by_cases h : lt r = c
  · rw [if_pos h]; simp [h]
  · rw [if_neg h]; simp [h]
theorem geta_seta {L : List (List Int)} {i j : Int} (hi : 0 ≤ i) (hl : i < (L.length : Int)) (hj : 0 ≤ j) : geta (seta L i) j = ((i == j) || geta L j) := by
  unfold geta seta
  rw [el_set _ _ _ _ (by omega)]
  by_cases h : i = j
  · subst h; simp
  · rw [if_neg (by omega)]
    have : (i == j) = false := by simpa using h
    rw [this, Bool.false_or]
structure CInv (p L G : List (List Int)) : Prop where
  l1 : L.length = 26
  l2 : G.length = 26
  hlet : ∀ c : Int, 65 ≤ c → c ≤ 90 → (c == 71 || c == 77) = false → geta L (c - 65) = fndB c p
  hgrp : ∀ g : Int, 1 ≤ g → g ≤ 25 → geta G g = fdg g p
theorem chk_rchk : ∀ (l p L G : List (List Int)), CInv p L G → (chk l L G).1 = rchk p l ∧ (rchk p l = 0 → CInv (p ++ l) (chk l L G).2.1 (chk l L G).2.2)
  | [], p, L, G, h => ⟨rfl, fun _ => by rw [List.append_nil]; exact h⟩
  | r :: l, p, L, G, h => by
    have e1 : p ++ r :: l = (p ++ [r]) ++ l := by simp
    rw [chk_cons (L := L) (G := G) (a := lt r) (n := nm r) rfl rfl, rchk_cons (p := p) (a := lt r) (n := nm r) rfl rfl, e1]
    have gb := grp_bd (lt r) (wv (nm r))
    cases hb : (!(decide (65 ≤ lt r ∧ lt r ≤ 90) && vl (nm r))) with
    | true => exact ⟨rfl, fun e => by simp at e⟩
    | false =>
    simp only [Bool.false_eq_true, if_false]
    have hab : 65 ≤ lt r ∧ lt r ≤ 90 := by
      rw [Bool.not_eq_false', Bool.and_eq_true] at hb
      exact of_decide_eq_true hb.1
    cases hc : (lt r == 71 || lt r == 77) with
    | false =>
      simp only [Bool.not_false, if_true]
      rw [h.hlet (lt r) hab.1 hab.2 hc]
      cases hf : fndB (lt r) p with
      | true => exact ⟨rfl, fun e => by simp at e⟩
      | false =>
        simp only [Bool.false_eq_true, if_false]
        have hl1 := h.l1
        refine chk_rchk l (p ++ [r]) _ G ⟨by unfold seta; rw [List.length_set]; exact h.l1, h.l2, fun c h1 h2 h3 => ?_, fun g h1 h2 => ?_⟩
        · rw [geta_seta (by omega) (by omega) (by omega), h.hlet c h1 h2 h3, fndB_append, fndB_one, Bool.or_comm]
          congr 1
          apply Bool.eq_iff_iff.2
          rw [beq_iff_eq, beq_iff_eq]
          omega
        · rw [h.hgrp g h1 h2, fdg_append]
          have : fdg g [r] = false := by
            unfold fdg
            rw [List.any_cons]
            have : grp (lt r) (wv (nm r)) = 0 := by
              unfold U.grp
              rw [if_neg (by simp at hc; exact hc.1), if_neg (by simp at hc; exact hc.2)]
            rw [this]
            have : ((0 : Int) == g) = false := by simp; omega
            rw [this, Bool.and_false]; rfl
          rw [this, Bool.or_false]
    | true =>
      simp only [Bool.not_true, Bool.false_eq_true, if_false]
      cases hw : (!isw (nm r) || (U.grp (lt r) (wv (nm r)) == 0)) with
      | true => exact ⟨rfl, fun e => by simp at e⟩
      | false =>
        simp only [Bool.false_eq_true, if_false]
        rw [Bool.or_eq_false_iff] at hw
        have hw1 : isw (nm r) = true := by simpa using hw.1
        have hg0 : U.grp (lt r) (wv (nm r)) ≠ 0 := by simpa using hw.2
        rw [h.hgrp _ (by omega) (by omega), gof_fdg (by omega)]
        cases hf : fdg (U.grp (lt r) (wv (nm r))) p with
        | true => exact ⟨rfl, fun e => by simp at e⟩
        | false =>
          simp only [Bool.false_eq_true, if_false]
          have hl2 := h.l2
          refine chk_rchk l (p ++ [r]) L _ ⟨h.l1, by unfold seta; rw [List.length_set]; exact h.l2, fun c h1 h2 h3 => ?_, fun g h1 h2 => ?_⟩
          · rw [h.hlet c h1 h2 h3, fndB_append, fndB_one]
            have : (lt r == c) = false := by
              simp at h3
              simp at hc
              simp
              omega
            rw [this, Bool.or_false]
          · rw [geta_seta (by omega) (by omega) (by omega), h.hgrp g h1 h2, fdg_append, Bool.or_comm]
            congr 1
            unfold fdg
            rw [List.any_cons, hw1]
            simp
theorem rck_ckk (l : List (List Int)) : rck l = ckk l := by
  obtain ⟨h1, h2⟩ := chk_rchk l [] z26 z26 ⟨rfl, rfl, fun c _ _ _ => by
    show geta (List.replicate 26 [0]) _ = _
    unfold geta
    rw [el_repl]; rfl, fun g _ _ => by
    show geta (List.replicate 26 [0]) _ = _
    unfold geta
    rw [el_repl]; rfl⟩
  unfold rck ckk
  dsimp only
  rw [h1]
  by_cases h : rchk [] l = 0
  · have hi := h2 h
    simp only [h, ne_eq, not_true_eq_false, if_false]
    rw [List.nil_append] at hi
    rw [hi.hgrp 14 (by omega) (by omega), hi.hgrp 1 (by omega) (by omega), hi.hgrp 13 (by omega) (by omega), gof_fdg (g := 14) (by omega), gof_fdg (g := 1) (by omega), gof_fdg (g := 13) (by omega)]
  · rw [if_pos h, if_pos h]
end U
namespace Go.Proofs.Ytcfgklmpfkmdkaa
open Go Go.HL U
set_option maxHeartbeats 400000 in
set_option maxRecDepth 100000 in
theorem sCheck2 : Sound Try.prog 21 SCheck := by
  refine sound_of (C := CCheck2) tabCheck2 Try.func21 (by kernel_rfl) (by decide +kernel) (by kernel_rfl) rfl ⟨sVl2, sWhole2, sGroup2, sFind2, sGof, trivial⟩ (loops1 (by kernel_rfl) (loopOK_of (an := anCheck2) (S := LCheck2) (by kernel_rfl) loopCheck2)) ?_
  intro hargs pars R h
  unfold SCheck at h
  split at h
  case h_2 => exfalso; exact h
  rename_i l
  have hq := h.2
  have h := h.1
  rw [← rck_ckk] at hq
  unfold rck at hq
  refine byVC (vcCheck2 l R) ⟨⟨rfl, h⟩, fun z => ⟨h, fun x1 e1 => ⟨fun q1 => ⟨h, fun x2 e2 => ⟨fun q2 => ?_, fun q2 => ⟨h, fun x3 e3 => ⟨fun q3 => ?_, fun q3 => ?_⟩⟩⟩⟩, fun q1 => ?_⟩⟩, fun z => ?_⟩
  · rw [if_neg (by omega), ← e1, ← e2, q1, q2] at hq; exact hq
  · rw [if_neg (by omega), ← e1, ← e2, ← e3, q1, q2, q3] at hq; exact hq
  · rw [if_neg (by omega), ← e1, ← e2, ← e3, q1, q2, q3] at hq; exact hq
  · rw [if_neg (by omega), ← e1, q1] at hq; exact hq
  · rw [if_pos z] at hq; exact hq
end Go.Proofs.Ytcfgklmpfkmdkaa
