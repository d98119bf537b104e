/-
  The closed facts on the dump's head (what the row's form asks of the whole program), by way of its list of letters: asked of the text itself they outgrow the memory.
-/
import Derived.Test.YtehidhcpdiameaaRows
import Derived.JoinedOf
import Derived.KernelRfl
namespace Go.Proofs.Ytehidhcpdiameaa
open Go

def headL : List Char := [
  Char.ofNat 104, Char.ofNat 97, Char.ofNat 114, Char.ofNat 110, Char.ofNat 101, Char.ofNat 115, Char.ofNat 115, Char.ofNat 32, Char.ofNat 49, Char.ofNat 53, Char.ofNat 49, Char.ofNat 49,
  Char.ofNat 54, Char.ofNat 102, Char.ofNat 52, Char.ofNat 48, Char.ofNat 56, Char.ofNat 97, Char.ofNat 97, Char.ofNat 49, Char.ofNat 55, Char.ofNat 57, Char.ofNat 101, Char.ofNat 50,
  Char.ofNat 97, Char.ofNat 99, Char.ofNat 101, Char.ofNat 57, Char.ofNat 51, Char.ofNat 48, Char.ofNat 48, Char.ofNat 53, Char.ofNat 102, Char.ofNat 99, Char.ofNat 101, Char.ofNat 97,
  Char.ofNat 53, Char.ofNat 55, Char.ofNat 98, Char.ofNat 97, Char.ofNat 51, Char.ofNat 102, Char.ofNat 54, Char.ofNat 49, Char.ofNat 53, Char.ofNat 100, Char.ofNat 101, Char.ofNat 53,
  Char.ofNat 56, Char.ofNat 99, Char.ofNat 102, Char.ofNat 54, Char.ofNat 102, Char.ofNat 49, Char.ofNat 49, Char.ofNat 100, Char.ofNat 51, Char.ofNat 100, Char.ofNat 99, Char.ofNat 56,
  Char.ofNat 48, Char.ofNat 48, Char.ofNat 98, Char.ofNat 52, Char.ofNat 57, Char.ofNat 56, Char.ofNat 102, Char.ofNat 54, Char.ofNat 50, Char.ofNat 51, Char.ofNat 99, Char.ofNat 52,
  Char.ofNat 32, Char.ofNat 99, Char.ofNat 117, Char.ofNat 116, Char.ofNat 32, Char.ofNat 97, Char.ofNat 116, Char.ofNat 32, Char.ofNat 111, Char.ofNat 115, Char.ofNat 115, Char.ofNat 117,
  Char.ofNat 97, Char.ofNat 114, Char.ofNat 121, Char.ofNat 47, Char.ofNat 111, Char.ofNat 115, Char.ofNat 115, Char.ofNat 117, Char.ofNat 97, Char.ofNat 114, Char.ofNat 121, Char.ofNat 108,
  Char.ofNat 97, Char.ofNat 119, Char.ofNat 48, Char.ofNat 50, Char.ofNat 46, Char.ofNat 67, Char.ofNat 114, Char.ofNat 99, Char.ofNat 83, Char.ofNat 117, Char.ofNat 109, Char.ofNat 115,
  Char.ofNat 32, Char.ofNat 111, Char.ofNat 115, Char.ofNat 115, Char.ofNat 117, Char.ofNat 97, Char.ofNat 114, Char.ofNat 121, Char.ofNat 47, Char.ofNat 111, Char.ofNat 115, Char.ofNat 115,
  Char.ofNat 117, Char.ofNat 97, Char.ofNat 114, Char.ofNat 121, Char.ofNat 108, Char.ofNat 97, Char.ofNat 119, Char.ofNat 48, Char.ofNat 50, Char.ofNat 46, Char.ofNat 67, Char.ofNat 114,
  Char.ofNat 99, Char.ofNat 84, Char.ofNat 101, Char.ofNat 108, Char.ofNat 108, Char.ofNat 115, Char.ofNat 32, Char.ofNat 111, Char.ofNat 115, Char.ofNat 115, Char.ofNat 117, Char.ofNat 97,
  Char.ofNat 114, Char.ofNat 121, Char.ofNat 47, Char.ofNat 111, Char.ofNat 115, Char.ofNat 115, Char.ofNat 117, Char.ofNat 97, Char.ofNat 114, Char.ofNat 121, Char.ofNat 108, Char.ofNat 97,
  Char.ofNat 119, Char.ofNat 48, Char.ofNat 50, Char.ofNat 46, Char.ofNat 67, Char.ofNat 114, Char.ofNat 99, Char.ofNat 77, Char.ofNat 105, Char.ofNat 120, Char.ofNat 101, Char.ofNat 100,
  Char.ofNat 32, Char.ofNat 111, Char.ofNat 115, Char.ofNat 115, Char.ofNat 117, Char.ofNat 97, Char.ofNat 114, Char.ofNat 121, Char.ofNat 47, Char.ofNat 111, Char.ofNat 115, Char.ofNat 115,
  Char.ofNat 117, Char.ofNat 97, Char.ofNat 114, Char.ofNat 121, Char.ofNat 108, Char.ofNat 97, Char.ofNat 119, Char.ofNat 48, Char.ofNat 50, Char.ofNat 46, Char.ofNat 67, Char.ofNat 114,
  Char.ofNat 99, Char.ofNat 66, Char.ofNat 97, Char.ofNat 99, Char.ofNat 107, Char.ofNat 32, Char.ofNat 111, Char.ofNat 115, Char.ofNat 115, Char.ofNat 117, Char.ofNat 97, Char.ofNat 114,
  Char.ofNat 121, Char.ofNat 47, Char.ofNat 111, Char.ofNat 115, Char.ofNat 115, Char.ofNat 117, Char.ofNat 97, Char.ofNat 114, Char.ofNat 121, Char.ofNat 108, Char.ofNat 97, Char.ofNat 119,
  Char.ofNat 48, Char.ofNat 50, Char.ofNat 46, Char.ofNat 67, Char.ofNat 114, Char.ofNat 99, Char.ofNat 76, Char.ofNat 111, Char.ofNat 110, Char.ofNat 103, Char.ofNat 101, Char.ofNat 114,
  Char.ofNat 32, Char.ofNat 111, Char.ofNat 115, Char.ofNat 115, Char.ofNat 117, Char.ofNat 97, Char.ofNat 114, Char.ofNat 121, Char.ofNat 47, Char.ofNat 111, Char.ofNat 115, Char.ofNat 115,
  Char.ofNat 117, Char.ofNat 97, Char.ofNat 114, Char.ofNat 121, Char.ofNat 108, Char.ofNat 97, Char.ofNat 119, Char.ofNat 49, Char.ofNat 48, Char.ofNat 46, Char.ofNat 87, Char.ofNat 105,
  Char.ofNat 114, Char.ofNat 101, Char.ofNat 84, Char.ofNat 101, Char.ofNat 108, Char.ofNat 108, Char.ofNat 115, Char.ofNat 32, Char.ofNat 111, Char.ofNat 115, Char.ofNat 115, Char.ofNat 117,
  Char.ofNat 97, Char.ofNat 114, Char.ofNat 121, Char.ofNat 47, Char.ofNat 111, Char.ofNat 115, Char.ofNat 115, Char.ofNat 117, Char.ofNat 97, Char.ofNat 114, Char.ofNat 121, Char.ofNat 108,
  Char.ofNat 97, Char.ofNat 119, Char.ofNat 49, Char.ofNat 48, Char.ofNat 46, Char.ofNat 87, Char.ofNat 105, Char.ofNat 114, Char.ofNat 101, Char.ofNat 66, Char.ofNat 97, Char.ofNat 99,
  Char.ofNat 107, Char.ofNat 32, Char.ofNat 111, Char.ofNat 115, Char.ofNat 115, Char.ofNat 117, Char.ofNat 97, Char.ofNat 114, Char.ofNat 121, Char.ofNat 47, Char.ofNat 111, Char.ofNat 115,
  Char.ofNat 115, Char.ofNat 117, Char.ofNat 97, Char.ofNat 114, Char.ofNat 121, Char.ofNat 108, Char.ofNat 97, Char.ofNat 119, Char.ofNat 49, Char.ofNat 48, Char.ofNat 46, Char.ofNat 87,
  Char.ofNat 105, Char.ofNat 114, Char.ofNat 101, Char.ofNat 79, Char.ofNat 110, Char.ofNat 99, Char.ofNat 101, Char.ofNat 32, Char.ofNat 111, Char.ofNat 115, Char.ofNat 115, Char.ofNat 117,
  Char.ofNat 97, Char.ofNat 114, Char.ofNat 121, Char.ofNat 47, Char.ofNat 111, Char.ofNat 115, Char.ofNat 115, Char.ofNat 117, Char.ofNat 97, Char.ofNat 114, Char.ofNat 121, Char.ofNat 108,
  Char.ofNat 97, Char.ofNat 119, Char.ofNat 49, Char.ofNat 48, Char.ofNat 46, Char.ofNat 87, Char.ofNat 105, Char.ofNat 114, Char.ofNat 101, Char.ofNat 83, Char.ofNat 104, Char.ofNat 111,
  Char.ofNat 114, Char.ofNat 116, Char.ofNat 32, Char.ofNat 111, Char.ofNat 115, Char.ofNat 115, Char.ofNat 117, Char.ofNat 97, Char.ofNat 114, Char.ofNat 121, Char.ofNat 47, Char.ofNat 111,
  Char.ofNat 115, Char.ofNat 115, Char.ofNat 117, Char.ofNat 97, Char.ofNat 114, Char.ofNat 121, Char.ofNat 108, Char.ofNat 97, Char.ofNat 119, Char.ofNat 49, Char.ofNat 48, Char.ofNat 46,
  Char.ofNat 87, Char.ofNat 105, Char.ofNat 114, Char.ofNat 101, Char.ofNat 76, Char.ofNat 105, Char.ofNat 115, Char.ofNat 116, Char.ofNat 115, Char.ofNat 32, Char.ofNat 111, Char.ofNat 115,
  Char.ofNat 115, Char.ofNat 117, Char.ofNat 97, Char.ofNat 114, Char.ofNat 121, Char.ofNat 47, Char.ofNat 111, Char.ofNat 115, Char.ofNat 115, Char.ofNat 117, Char.ofNat 97, Char.ofNat 114,
  Char.ofNat 121, Char.ofNat 108, Char.ofNat 97, Char.ofNat 119, Char.ofNat 49, Char.ofNat 49, Char.ofNat 46, Char.ofNat 80, Char.ofNat 97, Char.ofNat 103, Char.ofNat 101, Char.ofNat 84,
  Char.ofNat 101, Char.ofNat 108, Char.ofNat 108, Char.ofNat 115, Char.ofNat 32, Char.ofNat 111, Char.ofNat 115, Char.ofNat 115, Char.ofNat 117, Char.ofNat 97, Char.ofNat 114, Char.ofNat 121,
  Char.ofNat 47, Char.ofNat 111, Char.ofNat 115, Char.ofNat 115, Char.ofNat 117, Char.ofNat 97, Char.ofNat 114, Char.ofNat 121, Char.ofNat 108, Char.ofNat 97, Char.ofNat 119, Char.ofNat 49,
  Char.ofNat 49, Char.ofNat 46, Char.ofNat 80, Char.ofNat 97, Char.ofNat 103, Char.ofNat 101, Char.ofNat 66, Char.ofNat 97, Char.ofNat 99, Char.ofNat 107, Char.ofNat 32, Char.ofNat 111,
  Char.ofNat 115, Char.ofNat 115, Char.ofNat 117, Char.ofNat 97, Char.ofNat 114, Char.ofNat 121, Char.ofNat 47, Char.ofNat 111, Char.ofNat 115, Char.ofNat 115, Char.ofNat 117, Char.ofNat 97,
  Char.ofNat 114, Char.ofNat 121, Char.ofNat 108, Char.ofNat 97, Char.ofNat 119, Char.ofNat 49, Char.ofNat 49, Char.ofNat 46, Char.ofNat 80, Char.ofNat 97, Char.ofNat 103, Char.ofNat 101,
  Char.ofNat 79, Char.ofNat 110, Char.ofNat 99, Char.ofNat 101, Char.ofNat 32, Char.ofNat 111, Char.ofNat 115, Char.ofNat 115, Char.ofNat 117, Char.ofNat 97, Char.ofNat 114, Char.ofNat 121,
  Char.ofNat 47, Char.ofNat 111, Char.ofNat 115, Char.ofNat 115, Char.ofNat 117, Char.ofNat 97, Char.ofNat 114, Char.ofNat 121, Char.ofNat 108, Char.ofNat 97, Char.ofNat 119, Char.ofNat 49,
  Char.ofNat 49, Char.ofNat 46, Char.ofNat 80, Char.ofNat 97, Char.ofNat 103, Char.ofNat 101, Char.ofNat 84, Char.ofNat 111, Char.ofNat 114, Char.ofNat 110, Char.ofNat 32, Char.ofNat 111,
  Char.ofNat 115, Char.ofNat 115, Char.ofNat 117, Char.ofNat 97, Char.ofNat 114, Char.ofNat 121, Char.ofNat 47, Char.ofNat 111, Char.ofNat 115, Char.ofNat 115, Char.ofNat 117, Char.ofNat 97,
  Char.ofNat 114, Char.ofNat 121, Char.ofNat 108, Char.ofNat 97, Char.ofNat 119, Char.ofNat 49, Char.ofNat 49, Char.ofNat 46, Char.ofNat 80, Char.ofNat 97, Char.ofNat 103, Char.ofNat 101,
  Char.ofNat 78, Char.ofNat 101, Char.ofNat 101, Char.ofNat 100, Char.ofNat 32, Char.ofNat 111, Char.ofNat 115, Char.ofNat 115, Char.ofNat 117, Char.ofNat 97, Char.ofNat 114, Char.ofNat 121,
  Char.ofNat 47, Char.ofNat 111, Char.ofNat 115, Char.ofNat 115, Char.ofNat 117, Char.ofNat 97, Char.ofNat 114, Char.ofNat 121, Char.ofNat 108, Char.ofNat 97, Char.ofNat 119, Char.ofNat 48,
  Char.ofNat 57, Char.ofNat 46, Char.ofNat 68, Char.ofNat 101, Char.ofNat 118, Char.ofNat 105, Char.ofNat 99, Char.ofNat 101, Char.ofNat 70, Char.ofNat 117, Char.ofNat 115, Char.ofNat 101,
  Char.ofNat 32, Char.ofNat 111, Char.ofNat 115, Char.ofNat 115, Char.ofNat 117, Char.ofNat 97, Char.ofNat 114, Char.ofNat 121, Char.ofNat 47, Char.ofNat 111, Char.ofNat 115, Char.ofNat 115,
  Char.ofNat 117, Char.ofNat 97, Char.ofNat 114, Char.ofNat 121, Char.ofNat 108, Char.ofNat 97, Char.ofNat 119, Char.ofNat 48, Char.ofNat 57, Char.ofNat 46, Char.ofNat 68, Char.ofNat 101,
  Char.ofNat 118, Char.ofNat 105, Char.ofNat 99, Char.ofNat 101, Char.ofNat 84, Char.ofNat 101, Char.ofNat 108, Char.ofNat 108, Char.ofNat 115, Char.ofNat 32, Char.ofNat 111, Char.ofNat 115,
  Char.ofNat 115, Char.ofNat 117, Char.ofNat 97, Char.ofNat 114, Char.ofNat 121, Char.ofNat 47, Char.ofNat 111, Char.ofNat 115, Char.ofNat 115, Char.ofNat 117, Char.ofNat 97, Char.ofNat 114,
  Char.ofNat 121, Char.ofNat 108, Char.ofNat 97, Char.ofNat 119, Char.ofNat 48, Char.ofNat 57, Char.ofNat 46, Char.ofNat 68, Char.ofNat 101, Char.ofNat 118, Char.ofNat 105, Char.ofNat 99,
  Char.ofNat 101, Char.ofNat 87, Char.ofNat 114, Char.ofNat 105, Char.ofNat 116, Char.ofNat 101, Char.ofNat 115, Char.ofNat 32, Char.ofNat 111, Char.ofNat 115, Char.ofNat 115, Char.ofNat 117,
  Char.ofNat 97, Char.ofNat 114, Char.ofNat 121, Char.ofNat 47, Char.ofNat 111, Char.ofNat 115, Char.ofNat 115, Char.ofNat 117, Char.ofNat 97, Char.ofNat 114, Char.ofNat 121, Char.ofNat 108,
  Char.ofNat 97, Char.ofNat 119, Char.ofNat 48, Char.ofNat 57, Char.ofNat 46, Char.ofNat 68, Char.ofNat 101, Char.ofNat 118, Char.ofNat 105, Char.ofNat 99, Char.ofNat 101, Char.ofNat 75,
  Char.ofNat 101, Char.ofNat 101, Char.ofNat 112, Char.ofNat 115, Char.ofNat 32, Char.ofNat 111, Char.ofNat 115, Char.ofNat 115, Char.ofNat 117, Char.ofNat 97, Char.ofNat 114, Char.ofNat 121,
  Char.ofNat 47, Char.ofNat 111, Char.ofNat 115, Char.ofNat 115, Char.ofNat 117, Char.ofNat 97, Char.ofNat 114, Char.ofNat 121, Char.ofNat 108, Char.ofNat 97, Char.ofNat 119, Char.ofNat 48,
  Char.ofNat 57, Char.ofNat 46, Char.ofNat 68, Char.ofNat 101, Char.ofNat 118, Char.ofNat 105, Char.ofNat 99, Char.ofNat 101, Char.ofNat 65, Char.ofNat 112, Char.ofNat 97, Char.ofNat 114,
  Char.ofNat 116, Char.ofNat 32, Char.ofNat 111, Char.ofNat 115, Char.ofNat 115, Char.ofNat 117, Char.ofNat 97, Char.ofNat 114, Char.ofNat 121, Char.ofNat 47, Char.ofNat 111, Char.ofNat 115,
  Char.ofNat 115, Char.ofNat 117, Char.ofNat 97, Char.ofNat 114, Char.ofNat 121, Char.ofNat 108, Char.ofNat 97, Char.ofNat 119, Char.ofNat 49, Char.ofNat 50, Char.ofNat 46, Char.ofNat 83,
  Char.ofNat 117, Char.ofNat 112, Char.ofNat 101, Char.ofNat 114, Char.ofNat 84, Char.ofNat 101, Char.ofNat 108, Char.ofNat 108, Char.ofNat 115, Char.ofNat 32, Char.ofNat 111, Char.ofNat 115,
  Char.ofNat 115, Char.ofNat 117, Char.ofNat 97, Char.ofNat 114, Char.ofNat 121, Char.ofNat 47, Char.ofNat 111, Char.ofNat 115, Char.ofNat 115, Char.ofNat 117, Char.ofNat 97, Char.ofNat 114,
  Char.ofNat 121, Char.ofNat 108, Char.ofNat 97, Char.ofNat 119, Char.ofNat 49, Char.ofNat 50, Char.ofNat 46, Char.ofNat 83, Char.ofNat 117, Char.ofNat 112, Char.ofNat 101, Char.ofNat 114,
  Char.ofNat 66, Char.ofNat 97, Char.ofNat 99, Char.ofNat 107, Char.ofNat 32, Char.ofNat 111, Char.ofNat 115, Char.ofNat 115, Char.ofNat 117, Char.ofNat 97, Char.ofNat 114, Char.ofNat 121,
  Char.ofNat 47, Char.ofNat 111, Char.ofNat 115, Char.ofNat 115, Char.ofNat 117, Char.ofNat 97, Char.ofNat 114, Char.ofNat 121, Char.ofNat 108, Char.ofNat 97, Char.ofNat 119, Char.ofNat 49,
  Char.ofNat 50, Char.ofNat 46, Char.ofNat 83, Char.ofNat 117, Char.ofNat 112, Char.ofNat 101, Char.ofNat 114, Char.ofNat 84, Char.ofNat 117, Char.ofNat 114, Char.ofNat 110, Char.ofNat 115,
  Char.ofNat 32, Char.ofNat 111, Char.ofNat 115, Char.ofNat 115, Char.ofNat 117, Char.ofNat 97, Char.ofNat 114, Char.ofNat 121, Char.ofNat 47, Char.ofNat 111, Char.ofNat 115, Char.ofNat 115,
  Char.ofNat 117, Char.ofNat 97, Char.ofNat 114, Char.ofNat 121, Char.ofNat 108, Char.ofNat 97, Char.ofNat 119, Char.ofNat 49, Char.ofNat 50, Char.ofNat 46, Char.ofNat 83, Char.ofNat 117,
  Char.ofNat 112, Char.ofNat 101, Char.ofNat 114, Char.ofNat 71, Char.ofNat 114, Char.ofNat 101, Char.ofNat 97, Char.ofNat 116, Char.ofNat 101, Char.ofNat 114, Char.ofNat 32, Char.ofNat 111,
  Char.ofNat 115, Char.ofNat 115, Char.ofNat 117, Char.ofNat 97, Char.ofNat 114, Char.ofNat 121, Char.ofNat 47, Char.ofNat 111, Char.ofNat 115, Char.ofNat 115, Char.ofNat 117, Char.ofNat 97,
  Char.ofNat 114, Char.ofNat 121, Char.ofNat 108, Char.ofNat 97, Char.ofNat 119, Char.ofNat 49, Char.ofNat 50, Char.ofNat 46, Char.ofNat 83, Char.ofNat 117, Char.ofNat 112, Char.ofNat 101,
  Char.ofNat 114, Char.ofNat 66, Char.ofNat 114, Char.ofNat 111, Char.ofNat 107, Char.ofNat 101, Char.ofNat 110]
theorem head_eq : Try.prog.initOrder = String.ofList headL := by kernel_rfl
theorem head_toList : Try.prog.initOrder.toList = headL := by rw [head_eq, String.toList_ofList]

theorem letters (s : String) (l : List Char) (h : s = String.ofList l) : s.toList = l := by rw [h, String.toList_ofList]
def wCut : List Char := [Char.ofNat 99, Char.ofNat 117, Char.ofNat 116]
def wGc : List Char := [Char.ofNat 103, Char.ofNat 99]
def wSpec : List Char := [Char.ofNat 115, Char.ofNat 112, Char.ofNat 101, Char.ofNat 99]
def wCarried : List Char := [Char.ofNat 99, Char.ofNat 97, Char.ofNat 114, Char.ofNat 114, Char.ofNat 105, Char.ofNat 101, Char.ofNat 100]
theorem lCut : "cut".toList = wCut := letters _ _ (by kernel_rfl)
theorem lGc : "gc".toList = wGc := letters _ _ (by kernel_rfl)
theorem lSpec : "spec".toList = wSpec := letters _ _ (by kernel_rfl)
theorem lCarried : "carried".toList = wCarried := letters _ _ (by kernel_rfl)
theorem nGc : (wCut == wGc) = false := by kernel_rfl
theorem nSpec : (wCut == wSpec) = false := by kernel_rfl
theorem nCarried : (wCut == wCarried) = false := by kernel_rfl
theorem isCut : (wCut == wCut) = true := by kernel_rfl

/-- The head's words behind the harness: the first is the cut's. -/
theorem words_cut : (behindMainWord (wordsSigns headL)).head? = some wCut := by kernel_rfl
theorem words_ex : ∃ r, behindMainWord (wordsSigns headL) = wCut :: r := by
  have h := words_cut
  generalize behindMainWord (wordsSigns headL) = l at *
  cases l with
  | nil => cases h
  | cons a r => exact ⟨r, by rw [List.head?_cons, Option.some.injEq] at h; rw [h]⟩

theorem strip_words : (stripLifts liftWords [wCut]) = ([], [wCut]) := by kernel_rfl
theorem strip_none (os : List String) (r : List (List Char)) (h : stripLifts os [wCut] = ([], [wCut])) : stripLifts os (wCut :: r) = ([], wCut :: r) := by
  induction os with
  | nil => rfl
  | cons o os ih =>
    unfold stripLifts at h ⊢
    by_cases ho : (wCut == o.toList) = true
    · rw [if_pos ho] at h
      cases h
    · rw [if_neg ho] at h ⊢
      exact ih h
theorem head_cut (r : List (List Char)) : ((wCut :: r).head? == some "cut".toList) = true := by rw [lCut, List.head?_cons, Option.some_beq_some, isCut]
theorem head_carried (r : List (List Char)) : ((wCut :: r).head? == some "carried".toList) = false := by rw [lCarried, List.head?_cons, Option.some_beq_some, nCarried]
theorem no_word (s : String) : ([] : List String).contains s = false := List.contains_nil
theorem or_right {a b : Bool} (h : b = true) : (a || b) = true := by rw [h, Bool.or_true]
theorem not_of {a : Bool} (h : a = false) : (!a) = true := by rw [h]; rfl
theorem band {a b : Bool} (ha : a = true) (hb : b = true) : (a && b) = true := by rw [ha, hb]; rfl
theorem not_whole : ¬ ((wCut == "gc".toList || wCut == "spec".toList) = true) := by rw [lGc, lSpec, nGc, nSpec]; decide
theorem is_cut (X : Bool) : (wCut == "cut".toList || X) = true := by rw [lCut, isCut, Bool.true_or]

/-! Of whatever program whose head's first word is the cut's. -/
theorem enter_of (P : Program) (r : List (List Char)) (hr : behindMainWord (wordsSigns P.initOrder.toList) = wCut :: r)
    (h1 : P.laysLater = false) (h2 : P.bearsReflect = false) (h3 : P.doorFits [] = true) : P.mayEnter = true := by
  unfold Program.mayEnter
  rw [hr]
  refine or_right ?_
  rw [strip_none _ _ strip_words]
  exact band (band (band (band (head_cut _) (or_right (not_of h1))) (or_right (not_of h2))) (or_right (not_of (no_word _)))) h3
theorem lifts_of (P : Program) (r : List (List Char)) (hr : behindMainWord (wordsSigns P.initOrder.toList) = wCut :: r) : P.headLifts = [] := by
  unfold Program.headLifts
  rw [hr, strip_none _ _ strip_words]
  exact if_pos (head_cut _)
theorem neither (X Y : Bool) (hx : X = false) : (X && Y || ([] : List String).contains "finals") = false := by rw [hx, List.contains_nil, Bool.false_and, Bool.or_false]
theorem final_of (P : Program) (r : List (List Char)) (hr : behindMainWord (wordsSigns P.initOrder.toList) = wCut :: r) : P.liftsFinal = false := by
  unfold Program.liftsFinal
  rw [hr, lifts_of P r hr]
  exact neither _ _ (head_carried r)
theorem make_of (P : Program) (r : List (List Char)) (hr : behindMainWord (wordsSigns P.initOrder.toList) = wCut :: r) : P.make = some .cut := by
  unfold Program.make
  rw [hr]
  show (if _ then _ else _) = _
  rw [if_neg not_whole, if_pos (is_cut _)]

theorem words_try : ∃ r, behindMainWord (wordsSigns Try.prog.initOrder.toList) = wCut :: r := by
  rw [head_toList]
  exact words_ex
theorem no_later : Try.prog.laysLater = false := by kernel_rfl
theorem no_reflect : Try.prog.bearsReflect = false := by kernel_rfl
theorem door_fits : Try.prog.doorFits [] = true := by kernel_rfl
theorem enter_eq : Try.prog.mayEnter = true := by obtain ⟨r, hr⟩ := words_try; exact enter_of Try.prog r hr no_later no_reflect door_fits
theorem final_eq : Try.prog.liftsFinal = false := by obtain ⟨r, hr⟩ := words_try; exact final_of Try.prog r hr
theorem make_eq : Try.prog.make = some .cut := by obtain ⟨r, hr⟩ := words_try; exact make_of Try.prog r hr
theorem final_fits {x : Bool} (h : x = false) : (x == Try.prog.liftsFinal) = true := by rw [h, final_eq]; rfl
theorem make_fits {x : Make} (h : x = .cut) : (Try.prog.make == some x) = true := by rw [h, make_eq]; kernel_rfl
end Go.Proofs.Ytehidhcpdiameaa
