/- Strings as lists of bytes: rules for the walk. -/
import Derived.Laws.DeepStrings4
import Derived.Laws.Concat
import Derived.Laws.BytesArg
import Derived.Laws.IdiomStrings
import Derived.Test.YtcioklhpbmjeeaaMem
namespace Go.Proofs.Ytcioklhpbmjeeaa
open Go.RowKit
set_option linter.unusedVariables false

/-- A list of bytes, as a string. -/
def str (l : List UInt8) : ByteArray := ⟨l.toArray⟩
theorem str_size (l : List UInt8) : (str l).size = l.length := by simp [str, ByteArray.size]
theorem str_toList (l : List UInt8) : (str l).toList = l := by
  rw [ByteArray.toList_eq]; simp [str]
theorem str_extract (l : List UInt8) (a b : Nat) : (str l).extract a b = str ((l.drop a).take (b - a)) := ByteArray.extract_mk l a b
theorem str_append (a b : List UInt8) : str a ++ str b = str (a ++ b) := ByteArray.mk_append_mk a b
theorem str_nil : ({ data := #[] } : ByteArray) = str [] := rfl
theorem str_empty : ByteArray.empty = str [] := rfl
theorem str_inj {a b : List UInt8} : str a = str b ↔ a = b := by
  constructor
  · intro h; rw [← str_toList a, h, str_toList]
  · rintro rfl; rfl
attribute [go_sem] str_size str_toList str_extract str_append str_nil str_empty

/-- A row of bytes, read as a string. -/
theorem Row.string {P : Program} {w : World} {a : Option Addr} {n c : Nat} {bs : List UInt8} (h : Row w a n c 1 (bytes bs)) {src e dst : TypeId} (hs : P.underlying src = some (.slice e)) (he : P.underlying e = some (.int .u8)) (hd : P.underlying dst = some .string) :
    (convert src dst (.slice a n c)).run P w = .ok (.string (str bs)) w := by
  have hl : bs.length = n := by have := h.len; simpa [bytes] using this
  cases a with
  | none =>
    have hc := h.nil rfl
    have hn : n = 0 := by have := h.cap; omega
    subst hn
    have : bs = [] := List.eq_nil_of_length_eq_zero hl
    subst this
    exact run_convert_bytes_nil w src e hs he 0 c dst hd
  | some ad =>
    subst hl
    exact run_convert_bytes_back w src dst e ad c bs hs he hd (fun j hj => h.cell ad rfl j _ (by simp [bytes, hj]))
theorem Row.strings {P : Program} {w : World} {a : Option Addr} {n c : Nat} {bs : List UInt8} (h : Row w a n c 1 (bytes bs)) {src e dst : TypeId} (hs : P.underlying src = some (.slice e)) (he : P.underlying e = some (.int .u8)) (hd : P.underlying dst = some .string) :
    ∀ q, (convert src dst (.slice a n c)).run P (w.drewN q) = .ok (.string (str bs)) (w.drewN q) := fun q => (h.drewN q).string hs he hd
end Go.Proofs.Ytcioklhpbmjeeaa
