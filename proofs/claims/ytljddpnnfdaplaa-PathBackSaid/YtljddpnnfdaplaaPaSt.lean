/- The contracts of path.Parse, path.Join and slices.Equal in the form in which the printed contracts take a callee. -/
import Derived.Test.YtljddpnnfdaplaaJoB
namespace Go.Proofs.Ytljddpnnfdaplaa.P
open Go.RowKit Go.Proofs.YtljddpnnfdaplaaW.PrintWords

def path_Parse.f := Jo.path_Parse.f
theorem path_Parse.calls (l0 : ByteArray) (r1 : List ByteArray) (r2 : Int) (w : World) (h : path_Parse.f l0 = some (r1, r2)) :
    Calls Try.prog 9 #[.string l0] w fun e w' => ∃ v0_ : Value, e = .returned (.tuple #[v0_, .int .i64 r2]) ∧ Kd.R Kd.string 9 w' w.heap.size (fun _ => True) v0_ r1 ∧ Below w.heap.size w w' :=
  Jo.path_Parse.calls l0 r1 r2 w h
def path_Join.f := Jo.path_Join.f
theorem path_Join.calls (A0 : Option Addr) (c0 : Nat) (l0 : List ByteArray) (r1 : ByteArray) (r2 : Int) (w : World) (hr0 : Kd.C Kd.string w A0 l0.length l0) (hc0 : l0.length ≤ c0) (h : path_Join.f l0 = some (r1, r2)) :
    Calls Try.prog 16 #[.slice A0 l0.length c0] w fun e w' => e = .returned (.tuple #[.string r1, .int .i64 r2]) ∧ Below w.heap.size w w' :=
  Jo.path_Join.calls A0 c0 l0 r1 r2 w hr0 hc0 h
def slices_Equal_string_string.f (l0 l1 : List ByteArray) : Option Bool := some (decide (l0 = l1))
theorem slices_Equal_string_string.calls (A0 : Option Addr) (c0 : Nat) (l0 : List ByteArray) (A1 : Option Addr) (c1 : Nat) (l1 : List ByteArray) (r : Bool) (w : World) (hr0 : Kd.C Kd.string w A0 l0.length l0) (hc0 : l0.length ≤ c0) (hr1 : Kd.C Kd.string w A1 l1.length l1) (hc1 : l1.length ≤ c1) (h : slices_Equal_string_string.f l0 l1 = some r) :
    Calls Try.prog 25 #[.slice A0 l0.length c0, .slice A1 l1.length c1] w fun e w' => e = .returned (.bool r) ∧ Drawn0 w w' := by
  injection h with h
  rw [← h]
  exact Eq.equal_any A0 c0 l0 A1 c1 l1 w hr0 hc0 hr1 hc1
end Go.Proofs.Ytljddpnnfdaplaa.P
