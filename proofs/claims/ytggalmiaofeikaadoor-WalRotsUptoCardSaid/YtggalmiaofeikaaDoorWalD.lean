/- What is proved: a disk with one journal: what it holds behind each call. Conditions: texts of bounded length. -/
import Derived.Test.YtggalmiaofeikaaDoorWalO
set_option linter.unusedSimpArgs false
set_option linter.unusedVariables false
namespace Go.Proofs.YtggalmiaofeikaaDoor
open Go Go.J Go.RowKit

def VD : It := { It0 with dir := true }
abbrev vP : List UInt8 := [118]
abbrev lP : List UInt8 := [118, 47, 108, 111, 103]
def Dv0 : Dk := ⟨[(vP, VD)], [], 1, 0, -1, false⟩
/-- the disk, with the journal's file x -/
def Dl (x : It) (st sp ar : Int) (dn : Bool) : Dk := ⟨[(vP, VD), (lP, x)], [], st, sp, ar, dn⟩
theorem mkdir_v : Dk0.mkdir [118] = (0, Dv0) := by kernel_rfl
theorem open_new : walOpen Dv0 lP = (0, some ⟨lP, [], false⟩, Dl ⟨false, [], [], false, false, 2⟩ 4 2 (-1) false) := by kernel_rfl
theorem append_calm (d k r : List UInt8) (lo an : Bool) (s st sp : Int) : (Dl ⟨false, d, k, lo, an, s⟩ st sp (-1) false).append lP r = (0, Dl ⟨false, d ++ r, k, true, an, IntKind.i64.wrap (sp + 1)⟩ (IntKind.i64.wrap (st + 1)) (IntKind.i64.wrap (sp + 1)) (-1) false) := by kernel_rfl
theorem sync_calm (d k : List UInt8) (lo an : Bool) (s st sp : Int) : (Dl ⟨false, d, k, lo, an, s⟩ st sp (-1) false).sync lP = (0, Dl ⟨false, d, d, false, false, s⟩ (IntKind.i64.wrap (st + 1)) sp (-1) false) := by kernel_rfl
theorem kind_l (x : It) (st sp ar : Int) (dn : Bool) (h : x.dir = false) : (Dl x st sp ar dn).kind lP = 2 := by
  obtain ⟨dir, d, k, lo, an, s⟩ := x
  subst h
  kernel_rfl
theorem read_l (d k : List UInt8) (lo an : Bool) (s st sp ar : Int) : (Dl ⟨false, d, k, lo, an, s⟩ st sp ar false).read lP = (d, 0) := by kernel_rfl
theorem add_calm (G : Lg) (hp : G.p = lP) (d k r : List UInt8) (lo an : Bool) (s st sp : Int) : ∃ s' st' sp', walAdd G (Dl ⟨false, d, k, lo, an, s⟩ st sp (-1) false) r = (0, G.push r, Dl ⟨false, d ++ packE r, d ++ packE r, false, false, s'⟩ st' sp' (-1) false) := by
  have h : walAdd G (Dl ⟨false, d, k, lo, an, s⟩ st sp (-1) false) r = (0, G.push r, Dl ⟨false, d ++ packE r, d ++ packE r, false, false, IntKind.i64.wrap (sp + 1)⟩ (IntKind.i64.wrap (IntKind.i64.wrap (st + 1) + 1)) (IntKind.i64.wrap (sp + 1)) (-1) false) := by
    unfold walAdd
    rw [hp, append_calm]
    dsimp only
    rw [sync_calm]
    rfl
  exact ⟨_, _, _, h⟩
theorem open_whole (l : List (List UInt8)) (h : ∀ u ∈ l, u.length < 9223372036854775808) (k : List UInt8) (lo an : Bool) (s st sp ar : Int) :
    walOpen (Dl ⟨false, frames l, k, lo, an, s⟩ st sp ar false) lP = (0, some ⟨lP, l, false⟩, Dl ⟨false, frames l, k, lo, an, s⟩ st sp ar false) := by
  unfold walOpen
  rw [kind_l _ _ _ _ _ rfl, if_neg (by decide), read_l]
  dsimp only
  rw [if_neg (by decide), scanE_whole l h]
  rfl
theorem fill_calm (d k s0 : List UInt8) (lo an : Bool) (s st sp : Int) : (Dl ⟨false, d, k, lo, an, s⟩ st sp (-1) false).fill lP s0 = (0, Dl ⟨false, s0, s0, false, false, IntKind.i64.wrap (IntKind.i64.wrap (sp + 1) + 1)⟩ (IntKind.i64.wrap (IntKind.i64.wrap (IntKind.i64.wrap (st + 1) + 1) + 1)) (IntKind.i64.wrap (IntKind.i64.wrap (sp + 1) + 1)) (-1) false) := by kernel_rfl
theorem Sm_l {d k : List UInt8} {lo an : Bool} {s st sp ar : Int} {dn : Bool} {B : Nat} (h : d.length ≤ B) : (Dl ⟨false, d, k, lo, an, s⟩ st sp ar dn).Sm B := by
  refine ⟨rfl, fun x hx => ?_⟩
  simp only [Dl, List.mem_cons, List.not_mem_nil, or_false] at hx
  rcases hx with rfl | rfl
  · exact Nat.zero_le _
  · exact h
theorem Sm_v {B : Nat} : Dv0.Sm B := by
  refine ⟨rfl, fun x hx => ?_⟩
  simp only [Dv0, List.mem_cons, List.not_mem_nil, or_false] at hx
  subst hx
  exact Nat.zero_le _
end Go.Proofs.YtggalmiaofeikaaDoor
