/- digest.Of. -/
import Derived.Test.YtjcogpalmgcpbaaBase
import Derived.OwnWalk
import Derived.Laws.MakeOwn
import Derived.Lib.ConvBytes
import Derived.Lib.AtoiErrMem
/- digest.number: walked once (a seat without the reference). -/
namespace Go.Proofs.Ytjcogpalmgcpbaa
open Go Go.RowKit Go.Sort

theorem below_alloc1 (w : World) (o : Obj) : Below w.heap.size w (w.alloc o) := (Below.refl _ _).alloc (Nat.le_refl _) _
/-- A number as eight bytes, the greatest ahead. -/
def be8 (n : Nat) : List UInt8 := [UInt8.ofNat (n / 72057594037927936), UInt8.ofNat (n / 281474976710656), UInt8.ofNat (n / 1099511627776), UInt8.ofNat (n / 4294967296), UInt8.ofNat (n / 16777216), UInt8.ofNat (n / 65536), UInt8.ofNat (n / 256), UInt8.ofNat n]
theorem ofNat_mod (m : Nat) : UInt8.ofNat (m % 256) = UInt8.ofNat m := UInt8.toNat_inj.1 (by rw [UInt8.toNat_ofNat', UInt8.toNat_ofNat']; omega)




























end Go.Proofs.Ytjcogpalmgcpbaa
/- digest.of: walked once. -/
namespace Go.Proofs.Ytjcogpalmgcpbaa
open Go Go.RowKit Go.Sort Go.Lib

def dgX (l : List UInt8) (a : Int) : Int := l.foldl (fun x c => (69621 * x + c.toNat + 1) % 2147483647) a
def dgY (l : List UInt8) (a : Int) : Int := l.foldl (fun x c => (45991 * x + c.toNat + 1) % 2147483629) a
theorem dgX_app (l m : List UInt8) (a : Int) : dgX (l ++ m) a = dgX m (dgX l a) := by unfold dgX; rw [List.foldl_append]
theorem dgY_app (l m : List UInt8) (a : Int) : dgY (l ++ m) a = dgY m (dgY l a) := by unfold dgY; rw [List.foldl_append]
theorem or_join (X Y : Nat) (hX : X < 2147483648) (hY : Y < 4294967296) : bits BinOp.or IntKind.i64 ((X : Int) * 4294967296) (Y : Int) = ((X * 4294967296 + Y : Nat) : Int) := by
  have e1 : (BitVec.ofInt 64 ((X : Int) * 4294967296)).toNat = X * 4294967296 := by rw [BitVec.toNat_ofInt]; omega
  have e2 : (BitVec.ofInt 64 (Y : Int)).toNat = Y := by rw [BitVec.toNat_ofInt]; omega
  have e3 : X * 4294967296 ||| Y = X * 4294967296 + Y := by
    have := Nat.two_pow_add_eq_or_of_lt (i := 32) (b := Y) (by omega) X
    rw [show (2 : Nat) ^ 32 = 4294967296 from rfl, Nat.mul_comm] at this
    exact this.symm
  change IntKind.i64.wrap (((BitVec.ofInt 64 ((X : Int) * 4294967296) ||| BitVec.ofInt 64 (Y : Int)).toNat : Nat) : Int) = _
  rw [BitVec.toNat_or, e1, e2, e3]
  exact IntWalk.i64_in _ (by omega)
/-- Texts lie in a row. -/
def PartsAt (w : World) (b o : Nat) (l : List ByteArray) : Prop := ∀ k (h : k < l.length), w.cell? ⟨b, o + k, none⟩ = some (.string l[k]) ∧ l[k].size ≤ 100000000
def joined (l : List ByteArray) : List UInt8 := l.flatMap fun s => s.data.toList




















































































end Go.Proofs.Ytjcogpalmgcpbaa
namespace Go.Proofs.Ytjcogpalmgcpbaa
open Go Go.RowKit Go.Sort Go.Lib

/-- A digest. -/
def dg (l : List UInt8) : List UInt8 := be8 (dgX l 11 * 4294967296 + dgY l 17).toNat
theorem dg_len (l : List UInt8) : (dg l).length = 8 := rfl





















end Go.Proofs.Ytjcogpalmgcpbaa
