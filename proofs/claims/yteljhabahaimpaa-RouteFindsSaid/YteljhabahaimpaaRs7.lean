/- Masks and Within, plain. -/
import Derived.Test.YteljhabahaimpaaRs5
namespace Go.Proofs.Yteljhabahaimpaa
open Go.RowKit
set_option linter.unusedVariables false
set_option linter.unusedSimpArgs false
set_option maxRecDepth 100000
set_option maxHeartbeats 4000000
theorem mask_eq (a b c d n : Int) (hn : 0 ≤ n ∧ n ≤ 32) (h0 : 0 ≤ a ∧ a ≤ 255) (h1 : 0 ≤ b ∧ b ≤ 255) (h2 : 0 ≤ c ∧ c ≤ 255) (h3 : 0 ≤ d ∧ d ≤ 255) :
    msk (W4 a b c d) n / 16777216 % 256 = keep8 a (mn n 0) ∧ msk (W4 a b c d) n / 65536 % 256 = keep8 b (mn n 1) ∧ msk (W4 a b c d) n / 256 % 256 = keep8 c (mn n 2) ∧ msk (W4 a b c d) n % 256 = keep8 d (mn n 3) := by
  have hn : n = 0 ∨ n = 1 ∨ n = 2 ∨ n = 3 ∨ n = 4 ∨ n = 5 ∨ n = 6 ∨ n = 7 ∨ n = 8 ∨ n = 9 ∨ n = 10 ∨ n = 11 ∨ n = 12 ∨ n = 13 ∨ n = 14 ∨ n = 15 ∨ n = 16 ∨ n = 17 ∨ n = 18 ∨ n = 19 ∨ n = 20 ∨ n = 21 ∨ n = 22 ∨ n = 23 ∨ n = 24 ∨ n = 25 ∨ n = 26 ∨ n = 27 ∨ n = 28 ∨ n = 29 ∨ n = 30 ∨ n = 31 ∨ n = 32 := by omega
  rcases hn with rfl | rfl | rfl | rfl | rfl | rfl | rfl | rfl | rfl | rfl | rfl | rfl | rfl | rfl | rfl | rfl | rfl | rfl | rfl | rfl | rfl | rfl | rfl | rfl | rfl | rfl | rfl | rfl | rfl | rfl | rfl | rfl | rfl
  · show W4 a b c d / 4294967296 * 4294967296 / 16777216 % 256 = a / 256 * 256 ∧ W4 a b c d / 4294967296 * 4294967296 / 65536 % 256 = b / 256 * 256 ∧ W4 a b c d / 4294967296 * 4294967296 / 256 % 256 = c / 256 * 256 ∧ W4 a b c d / 4294967296 * 4294967296 % 256 = d / 256 * 256
    unfold W4; omega
  · show W4 a b c d / 2147483648 * 2147483648 / 16777216 % 256 = a / 128 * 128 ∧ W4 a b c d / 2147483648 * 2147483648 / 65536 % 256 = b / 256 * 256 ∧ W4 a b c d / 2147483648 * 2147483648 / 256 % 256 = c / 256 * 256 ∧ W4 a b c d / 2147483648 * 2147483648 % 256 = d / 256 * 256
    unfold W4; omega
  · show W4 a b c d / 1073741824 * 1073741824 / 16777216 % 256 = a / 64 * 64 ∧ W4 a b c d / 1073741824 * 1073741824 / 65536 % 256 = b / 256 * 256 ∧ W4 a b c d / 1073741824 * 1073741824 / 256 % 256 = c / 256 * 256 ∧ W4 a b c d / 1073741824 * 1073741824 % 256 = d / 256 * 256
    unfold W4; omega
  · show W4 a b c d / 536870912 * 536870912 / 16777216 % 256 = a / 32 * 32 ∧ W4 a b c d / 536870912 * 536870912 / 65536 % 256 = b / 256 * 256 ∧ W4 a b c d / 536870912 * 536870912 / 256 % 256 = c / 256 * 256 ∧ W4 a b c d / 536870912 * 536870912 % 256 = d / 256 * 256
    unfold W4; omega
  · show W4 a b c d / 268435456 * 268435456 / 16777216 % 256 = a / 16 * 16 ∧ W4 a b c d / 268435456 * 268435456 / 65536 % 256 = b / 256 * 256 ∧ W4 a b c d / 268435456 * 268435456 / 256 % 256 = c / 256 * 256 ∧ W4 a b c d / 268435456 * 268435456 % 256 = d / 256 * 256
    unfold W4; omega
  · show W4 a b c d / 134217728 * 134217728 / 16777216 % 256 = a / 8 * 8 ∧ W4 a b c d / 134217728 * 134217728 / 65536 % 256 = b / 256 * 256 ∧ W4 a b c d / 134217728 * 134217728 / 256 % 256 = c / 256 * 256 ∧ W4 a b c d / 134217728 * 134217728 % 256 = d / 256 * 256
    unfold W4; omega
  · show W4 a b c d / 67108864 * 67108864 / 16777216 % 256 = a / 4 * 4 ∧ W4 a b c d / 67108864 * 67108864 / 65536 % 256 = b / 256 * 256 ∧ W4 a b c d / 67108864 * 67108864 / 256 % 256 = c / 256 * 256 ∧ W4 a b c d / 67108864 * 67108864 % 256 = d / 256 * 256
    unfold W4; omega
  · show W4 a b c d / 33554432 * 33554432 / 16777216 % 256 = a / 2 * 2 ∧ W4 a b c d / 33554432 * 33554432 / 65536 % 256 = b / 256 * 256 ∧ W4 a b c d / 33554432 * 33554432 / 256 % 256 = c / 256 * 256 ∧ W4 a b c d / 33554432 * 33554432 % 256 = d / 256 * 256
    unfold W4; omega
  · show W4 a b c d / 16777216 * 16777216 / 16777216 % 256 = a / 1 * 1 ∧ W4 a b c d / 16777216 * 16777216 / 65536 % 256 = b / 256 * 256 ∧ W4 a b c d / 16777216 * 16777216 / 256 % 256 = c / 256 * 256 ∧ W4 a b c d / 16777216 * 16777216 % 256 = d / 256 * 256
    unfold W4; omega
  · show W4 a b c d / 8388608 * 8388608 / 16777216 % 256 = a / 1 * 1 ∧ W4 a b c d / 8388608 * 8388608 / 65536 % 256 = b / 128 * 128 ∧ W4 a b c d / 8388608 * 8388608 / 256 % 256 = c / 256 * 256 ∧ W4 a b c d / 8388608 * 8388608 % 256 = d / 256 * 256
    unfold W4; omega
  · show W4 a b c d / 4194304 * 4194304 / 16777216 % 256 = a / 1 * 1 ∧ W4 a b c d / 4194304 * 4194304 / 65536 % 256 = b / 64 * 64 ∧ W4 a b c d / 4194304 * 4194304 / 256 % 256 = c / 256 * 256 ∧ W4 a b c d / 4194304 * 4194304 % 256 = d / 256 * 256
    unfold W4; omega
  · show W4 a b c d / 2097152 * 2097152 / 16777216 % 256 = a / 1 * 1 ∧ W4 a b c d / 2097152 * 2097152 / 65536 % 256 = b / 32 * 32 ∧ W4 a b c d / 2097152 * 2097152 / 256 % 256 = c / 256 * 256 ∧ W4 a b c d / 2097152 * 2097152 % 256 = d / 256 * 256
    unfold W4; omega
  · show W4 a b c d / 1048576 * 1048576 / 16777216 % 256 = a / 1 * 1 ∧ W4 a b c d / 1048576 * 1048576 / 65536 % 256 = b / 16 * 16 ∧ W4 a b c d / 1048576 * 1048576 / 256 % 256 = c / 256 * 256 ∧ W4 a b c d / 1048576 * 1048576 % 256 = d / 256 * 256
    unfold W4; omega
  · show W4 a b c d / 524288 * 524288 / 16777216 % 256 = a / 1 * 1 ∧ W4 a b c d / 524288 * 524288 / 65536 % 256 = b / 8 * 8 ∧ W4 a b c d / 524288 * 524288 / 256 % 256 = c / 256 * 256 ∧ W4 a b c d / 524288 * 524288 % 256 = d / 256 * 256
    unfold W4; omega
  · show W4 a b c d / 262144 * 262144 / 16777216 % 256 = a / 1 * 1 ∧ W4 a b c d / 262144 * 262144 / 65536 % 256 = b / 4 * 4 ∧ W4 a b c d / 262144 * 262144 / 256 % 256 = c / 256 * 256 ∧ W4 a b c d / 262144 * 262144 % 256 = d / 256 * 256
    unfold W4; omega
  · show W4 a b c d / 131072 * 131072 / 16777216 % 256 = a / 1 * 1 ∧ W4 a b c d / 131072 * 131072 / 65536 % 256 = b / 2 * 2 ∧ W4 a b c d / 131072 * 131072 / 256 % 256 = c / 256 * 256 ∧ W4 a b c d / 131072 * 131072 % 256 = d / 256 * 256
    unfold W4; omega
  · show W4 a b c d / 65536 * 65536 / 16777216 % 256 = a / 1 * 1 ∧ W4 a b c d / 65536 * 65536 / 65536 % 256 = b / 1 * 1 ∧ W4 a b c d / 65536 * 65536 / 256 % 256 = c / 256 * 256 ∧ W4 a b c d / 65536 * 65536 % 256 = d / 256 * 256
    unfold W4; omega
  · show W4 a b c d / 32768 * 32768 / 16777216 % 256 = a / 1 * 1 ∧ W4 a b c d / 32768 * 32768 / 65536 % 256 = b / 1 * 1 ∧ W4 a b c d / 32768 * 32768 / 256 % 256 = c / 128 * 128 ∧ W4 a b c d / 32768 * 32768 % 256 = d / 256 * 256
    unfold W4; omega
  · show W4 a b c d / 16384 * 16384 / 16777216 % 256 = a / 1 * 1 ∧ W4 a b c d / 16384 * 16384 / 65536 % 256 = b / 1 * 1 ∧ W4 a b c d / 16384 * 16384 / 256 % 256 = c / 64 * 64 ∧ W4 a b c d / 16384 * 16384 % 256 = d / 256 * 256
    unfold W4; omega
  · show W4 a b c d / 8192 * 8192 / 16777216 % 256 = a / 1 * 1 ∧ W4 a b c d / 8192 * 8192 / 65536 % 256 = b / 1 * 1 ∧ W4 a b c d / 8192 * 8192 / 256 % 256 = c / 32 * 32 ∧ W4 a b c d / 8192 * 8192 % 256 = d / 256 * 256
    unfold W4; omega
  · show W4 a b c d / 4096 * 4096 / 16777216 % 256 = a / 1 * 1 ∧ W4 a b c d / 4096 * 4096 / 65536 % 256 = b / 1 * 1 ∧ W4 a b c d / 4096 * 4096 / 256 % 256 = c / 16 * 16 ∧ W4 a b c d / 4096 * 4096 % 256 = d / 256 * 256
    unfold W4; omega
  · show W4 a b c d / 2048 * 2048 / 16777216 % 256 = a / 1 * 1 ∧ W4 a b c d / 2048 * 2048 / 65536 % 256 = b / 1 * 1 ∧ W4 a b c d / 2048 * 2048 / 256 % 256 = c / 8 * 8 ∧ W4 a b c d / 2048 * 2048 % 256 = d / 256 * 256
    unfold W4; omega
  · show W4 a b c d / 1024 * 1024 / 16777216 % 256 = a / 1 * 1 ∧ W4 a b c d / 1024 * 1024 / 65536 % 256 = b / 1 * 1 ∧ W4 a b c d / 1024 * 1024 / 256 % 256 = c / 4 * 4 ∧ W4 a b c d / 1024 * 1024 % 256 = d / 256 * 256
    unfold W4; omega
  · show W4 a b c d / 512 * 512 / 16777216 % 256 = a / 1 * 1 ∧ W4 a b c d / 512 * 512 / 65536 % 256 = b / 1 * 1 ∧ W4 a b c d / 512 * 512 / 256 % 256 = c / 2 * 2 ∧ W4 a b c d / 512 * 512 % 256 = d / 256 * 256
    unfold W4; omega
  · show W4 a b c d / 256 * 256 / 16777216 % 256 = a / 1 * 1 ∧ W4 a b c d / 256 * 256 / 65536 % 256 = b / 1 * 1 ∧ W4 a b c d / 256 * 256 / 256 % 256 = c / 1 * 1 ∧ W4 a b c d / 256 * 256 % 256 = d / 256 * 256
    unfold W4; omega
  · show W4 a b c d / 128 * 128 / 16777216 % 256 = a / 1 * 1 ∧ W4 a b c d / 128 * 128 / 65536 % 256 = b / 1 * 1 ∧ W4 a b c d / 128 * 128 / 256 % 256 = c / 1 * 1 ∧ W4 a b c d / 128 * 128 % 256 = d / 128 * 128
    unfold W4; omega
  · show W4 a b c d / 64 * 64 / 16777216 % 256 = a / 1 * 1 ∧ W4 a b c d / 64 * 64 / 65536 % 256 = b / 1 * 1 ∧ W4 a b c d / 64 * 64 / 256 % 256 = c / 1 * 1 ∧ W4 a b c d / 64 * 64 % 256 = d / 64 * 64
    unfold W4; omega
  · show W4 a b c d / 32 * 32 / 16777216 % 256 = a / 1 * 1 ∧ W4 a b c d / 32 * 32 / 65536 % 256 = b / 1 * 1 ∧ W4 a b c d / 32 * 32 / 256 % 256 = c / 1 * 1 ∧ W4 a b c d / 32 * 32 % 256 = d / 32 * 32
    unfold W4; omega
  · show W4 a b c d / 16 * 16 / 16777216 % 256 = a / 1 * 1 ∧ W4 a b c d / 16 * 16 / 65536 % 256 = b / 1 * 1 ∧ W4 a b c d / 16 * 16 / 256 % 256 = c / 1 * 1 ∧ W4 a b c d / 16 * 16 % 256 = d / 16 * 16
    unfold W4; omega
  · show W4 a b c d / 8 * 8 / 16777216 % 256 = a / 1 * 1 ∧ W4 a b c d / 8 * 8 / 65536 % 256 = b / 1 * 1 ∧ W4 a b c d / 8 * 8 / 256 % 256 = c / 1 * 1 ∧ W4 a b c d / 8 * 8 % 256 = d / 8 * 8
    unfold W4; omega
  · show W4 a b c d / 4 * 4 / 16777216 % 256 = a / 1 * 1 ∧ W4 a b c d / 4 * 4 / 65536 % 256 = b / 1 * 1 ∧ W4 a b c d / 4 * 4 / 256 % 256 = c / 1 * 1 ∧ W4 a b c d / 4 * 4 % 256 = d / 4 * 4
    unfold W4; omega
  · show W4 a b c d / 2 * 2 / 16777216 % 256 = a / 1 * 1 ∧ W4 a b c d / 2 * 2 / 65536 % 256 = b / 1 * 1 ∧ W4 a b c d / 2 * 2 / 256 % 256 = c / 1 * 1 ∧ W4 a b c d / 2 * 2 % 256 = d / 2 * 2
    unfold W4; omega
  · show W4 a b c d / 1 * 1 / 16777216 % 256 = a / 1 * 1 ∧ W4 a b c d / 1 * 1 / 65536 % 256 = b / 1 * 1 ∧ W4 a b c d / 1 * 1 / 256 % 256 = c / 1 * 1 ∧ W4 a b c d / 1 * 1 % 256 = d / 1 * 1
    unfold W4; omega
theorem within_eq (a0 a1 a2 a3 n0 n1 n2 n3 n : Int) (hn : 0 ≤ n ∧ n ≤ 32) (ha0 : 0 ≤ a0 ∧ a0 ≤ 255) (ha1 : 0 ≤ a1 ∧ a1 ≤ 255) (ha2 : 0 ≤ a2 ∧ a2 ≤ 255) (ha3 : 0 ≤ a3 ∧ a3 ≤ 255) (hn0 : 0 ≤ n0 ∧ n0 ≤ 255) (hn1 : 0 ≤ n1 ∧ n1 ≤ 255) (hn2 : 0 ≤ n2 ∧ n2 ≤ 255) (hn3 : 0 ≤ n3 ∧ n3 ≤ 255) :
    W4 a0 a1 a2 a3 / 2 ^ (32 - n).toNat = W4 n0 n1 n2 n3 / 2 ^ (32 - n).toNat ↔ (a0 / 2 ^ (8 - mn n 0).toNat = n0 / 2 ^ (8 - mn n 0).toNat ∧ a1 / 2 ^ (8 - mn n 1).toNat = n1 / 2 ^ (8 - mn n 1).toNat ∧ a2 / 2 ^ (8 - mn n 2).toNat = n2 / 2 ^ (8 - mn n 2).toNat ∧ a3 / 2 ^ (8 - mn n 3).toNat = n3 / 2 ^ (8 - mn n 3).toNat) := by
  have hn : n = 0 ∨ n = 1 ∨ n = 2 ∨ n = 3 ∨ n = 4 ∨ n = 5 ∨ n = 6 ∨ n = 7 ∨ n = 8 ∨ n = 9 ∨ n = 10 ∨ n = 11 ∨ n = 12 ∨ n = 13 ∨ n = 14 ∨ n = 15 ∨ n = 16 ∨ n = 17 ∨ n = 18 ∨ n = 19 ∨ n = 20 ∨ n = 21 ∨ n = 22 ∨ n = 23 ∨ n = 24 ∨ n = 25 ∨ n = 26 ∨ n = 27 ∨ n = 28 ∨ n = 29 ∨ n = 30 ∨ n = 31 ∨ n = 32 := by omega
  rcases hn with rfl | rfl | rfl | rfl | rfl | rfl | rfl | rfl | rfl | rfl | rfl | rfl | rfl | rfl | rfl | rfl | rfl | rfl | rfl | rfl | rfl | rfl | rfl | rfl | rfl | rfl | rfl | rfl | rfl | rfl | rfl | rfl | rfl
  · show W4 a0 a1 a2 a3 / 4294967296 = W4 n0 n1 n2 n3 / 4294967296 ↔ (a0 / 256 = n0 / 256 ∧ a1 / 256 = n1 / 256 ∧ a2 / 256 = n2 / 256 ∧ a3 / 256 = n3 / 256)
    unfold W4; omega
  · show W4 a0 a1 a2 a3 / 2147483648 = W4 n0 n1 n2 n3 / 2147483648 ↔ (a0 / 128 = n0 / 128 ∧ a1 / 256 = n1 / 256 ∧ a2 / 256 = n2 / 256 ∧ a3 / 256 = n3 / 256)
    unfold W4; omega
  · show W4 a0 a1 a2 a3 / 1073741824 = W4 n0 n1 n2 n3 / 1073741824 ↔ (a0 / 64 = n0 / 64 ∧ a1 / 256 = n1 / 256 ∧ a2 / 256 = n2 / 256 ∧ a3 / 256 = n3 / 256)
    unfold W4; omega
  · show W4 a0 a1 a2 a3 / 536870912 = W4 n0 n1 n2 n3 / 536870912 ↔ (a0 / 32 = n0 / 32 ∧ a1 / 256 = n1 / 256 ∧ a2 / 256 = n2 / 256 ∧ a3 / 256 = n3 / 256)
    unfold W4; omega
  · show W4 a0 a1 a2 a3 / 268435456 = W4 n0 n1 n2 n3 / 268435456 ↔ (a0 / 16 = n0 / 16 ∧ a1 / 256 = n1 / 256 ∧ a2 / 256 = n2 / 256 ∧ a3 / 256 = n3 / 256)
    unfold W4; omega
  · show W4 a0 a1 a2 a3 / 134217728 = W4 n0 n1 n2 n3 / 134217728 ↔ (a0 / 8 = n0 / 8 ∧ a1 / 256 = n1 / 256 ∧ a2 / 256 = n2 / 256 ∧ a3 / 256 = n3 / 256)
    unfold W4; omega
  · show W4 a0 a1 a2 a3 / 67108864 = W4 n0 n1 n2 n3 / 67108864 ↔ (a0 / 4 = n0 / 4 ∧ a1 / 256 = n1 / 256 ∧ a2 / 256 = n2 / 256 ∧ a3 / 256 = n3 / 256)
    unfold W4; omega
  · show W4 a0 a1 a2 a3 / 33554432 = W4 n0 n1 n2 n3 / 33554432 ↔ (a0 / 2 = n0 / 2 ∧ a1 / 256 = n1 / 256 ∧ a2 / 256 = n2 / 256 ∧ a3 / 256 = n3 / 256)
    unfold W4; omega
  · show W4 a0 a1 a2 a3 / 16777216 = W4 n0 n1 n2 n3 / 16777216 ↔ (a0 / 1 = n0 / 1 ∧ a1 / 256 = n1 / 256 ∧ a2 / 256 = n2 / 256 ∧ a3 / 256 = n3 / 256)
    unfold W4; omega
  · show W4 a0 a1 a2 a3 / 8388608 = W4 n0 n1 n2 n3 / 8388608 ↔ (a0 / 1 = n0 / 1 ∧ a1 / 128 = n1 / 128 ∧ a2 / 256 = n2 / 256 ∧ a3 / 256 = n3 / 256)
    unfold W4; omega
  · show W4 a0 a1 a2 a3 / 4194304 = W4 n0 n1 n2 n3 / 4194304 ↔ (a0 / 1 = n0 / 1 ∧ a1 / 64 = n1 / 64 ∧ a2 / 256 = n2 / 256 ∧ a3 / 256 = n3 / 256)
    unfold W4; omega
  · show W4 a0 a1 a2 a3 / 2097152 = W4 n0 n1 n2 n3 / 2097152 ↔ (a0 / 1 = n0 / 1 ∧ a1 / 32 = n1 / 32 ∧ a2 / 256 = n2 / 256 ∧ a3 / 256 = n3 / 256)
    unfold W4; omega
  · show W4 a0 a1 a2 a3 / 1048576 = W4 n0 n1 n2 n3 / 1048576 ↔ (a0 / 1 = n0 / 1 ∧ a1 / 16 = n1 / 16 ∧ a2 / 256 = n2 / 256 ∧ a3 / 256 = n3 / 256)
    unfold W4; omega
  · show W4 a0 a1 a2 a3 / 524288 = W4 n0 n1 n2 n3 / 524288 ↔ (a0 / 1 = n0 / 1 ∧ a1 / 8 = n1 / 8 ∧ a2 / 256 = n2 / 256 ∧ a3 / 256 = n3 / 256)
    unfold W4; omega
  · show W4 a0 a1 a2 a3 / 262144 = W4 n0 n1 n2 n3 / 262144 ↔ (a0 / 1 = n0 / 1 ∧ a1 / 4 = n1 / 4 ∧ a2 / 256 = n2 / 256 ∧ a3 / 256 = n3 / 256)
    unfold W4; omega
  · show W4 a0 a1 a2 a3 / 131072 = W4 n0 n1 n2 n3 / 131072 ↔ (a0 / 1 = n0 / 1 ∧ a1 / 2 = n1 / 2 ∧ a2 / 256 = n2 / 256 ∧ a3 / 256 = n3 / 256)
    unfold W4; omega
  · show W4 a0 a1 a2 a3 / 65536 = W4 n0 n1 n2 n3 / 65536 ↔ (a0 / 1 = n0 / 1 ∧ a1 / 1 = n1 / 1 ∧ a2 / 256 = n2 / 256 ∧ a3 / 256 = n3 / 256)
    unfold W4; omega
  · show W4 a0 a1 a2 a3 / 32768 = W4 n0 n1 n2 n3 / 32768 ↔ (a0 / 1 = n0 / 1 ∧ a1 / 1 = n1 / 1 ∧ a2 / 128 = n2 / 128 ∧ a3 / 256 = n3 / 256)
    unfold W4; omega
  · show W4 a0 a1 a2 a3 / 16384 = W4 n0 n1 n2 n3 / 16384 ↔ (a0 / 1 = n0 / 1 ∧ a1 / 1 = n1 / 1 ∧ a2 / 64 = n2 / 64 ∧ a3 / 256 = n3 / 256)
    unfold W4; omega
  · show W4 a0 a1 a2 a3 / 8192 = W4 n0 n1 n2 n3 / 8192 ↔ (a0 / 1 = n0 / 1 ∧ a1 / 1 = n1 / 1 ∧ a2 / 32 = n2 / 32 ∧ a3 / 256 = n3 / 256)
    unfold W4; omega
  · show W4 a0 a1 a2 a3 / 4096 = W4 n0 n1 n2 n3 / 4096 ↔ (a0 / 1 = n0 / 1 ∧ a1 / 1 = n1 / 1 ∧ a2 / 16 = n2 / 16 ∧ a3 / 256 = n3 / 256)
    unfold W4; omega
  · show W4 a0 a1 a2 a3 / 2048 = W4 n0 n1 n2 n3 / 2048 ↔ (a0 / 1 = n0 / 1 ∧ a1 / 1 = n1 / 1 ∧ a2 / 8 = n2 / 8 ∧ a3 / 256 = n3 / 256)
    unfold W4; omega
  · show W4 a0 a1 a2 a3 / 1024 = W4 n0 n1 n2 n3 / 1024 ↔ (a0 / 1 = n0 / 1 ∧ a1 / 1 = n1 / 1 ∧ a2 / 4 = n2 / 4 ∧ a3 / 256 = n3 / 256)
    unfold W4; omega
  · show W4 a0 a1 a2 a3 / 512 = W4 n0 n1 n2 n3 / 512 ↔ (a0 / 1 = n0 / 1 ∧ a1 / 1 = n1 / 1 ∧ a2 / 2 = n2 / 2 ∧ a3 / 256 = n3 / 256)
    unfold W4; omega
  · show W4 a0 a1 a2 a3 / 256 = W4 n0 n1 n2 n3 / 256 ↔ (a0 / 1 = n0 / 1 ∧ a1 / 1 = n1 / 1 ∧ a2 / 1 = n2 / 1 ∧ a3 / 256 = n3 / 256)
    unfold W4; omega
  · show W4 a0 a1 a2 a3 / 128 = W4 n0 n1 n2 n3 / 128 ↔ (a0 / 1 = n0 / 1 ∧ a1 / 1 = n1 / 1 ∧ a2 / 1 = n2 / 1 ∧ a3 / 128 = n3 / 128)
    unfold W4; omega
  · show W4 a0 a1 a2 a3 / 64 = W4 n0 n1 n2 n3 / 64 ↔ (a0 / 1 = n0 / 1 ∧ a1 / 1 = n1 / 1 ∧ a2 / 1 = n2 / 1 ∧ a3 / 64 = n3 / 64)
    unfold W4; omega
  · show W4 a0 a1 a2 a3 / 32 = W4 n0 n1 n2 n3 / 32 ↔ (a0 / 1 = n0 / 1 ∧ a1 / 1 = n1 / 1 ∧ a2 / 1 = n2 / 1 ∧ a3 / 32 = n3 / 32)
    unfold W4; omega
  · show W4 a0 a1 a2 a3 / 16 = W4 n0 n1 n2 n3 / 16 ↔ (a0 / 1 = n0 / 1 ∧ a1 / 1 = n1 / 1 ∧ a2 / 1 = n2 / 1 ∧ a3 / 16 = n3 / 16)
    unfold W4; omega
  · show W4 a0 a1 a2 a3 / 8 = W4 n0 n1 n2 n3 / 8 ↔ (a0 / 1 = n0 / 1 ∧ a1 / 1 = n1 / 1 ∧ a2 / 1 = n2 / 1 ∧ a3 / 8 = n3 / 8)
    unfold W4; omega
  · show W4 a0 a1 a2 a3 / 4 = W4 n0 n1 n2 n3 / 4 ↔ (a0 / 1 = n0 / 1 ∧ a1 / 1 = n1 / 1 ∧ a2 / 1 = n2 / 1 ∧ a3 / 4 = n3 / 4)
    unfold W4; omega
  · show W4 a0 a1 a2 a3 / 2 = W4 n0 n1 n2 n3 / 2 ↔ (a0 / 1 = n0 / 1 ∧ a1 / 1 = n1 / 1 ∧ a2 / 1 = n2 / 1 ∧ a3 / 2 = n3 / 2)
    unfold W4; omega
  · show W4 a0 a1 a2 a3 / 1 = W4 n0 n1 n2 n3 / 1 ↔ (a0 / 1 = n0 / 1 ∧ a1 / 1 = n1 / 1 ∧ a2 / 1 = n2 / 1 ∧ a3 / 1 = n3 / 1)
    unfold W4; omega
end Go.Proofs.Yteljhabahaimpaa
