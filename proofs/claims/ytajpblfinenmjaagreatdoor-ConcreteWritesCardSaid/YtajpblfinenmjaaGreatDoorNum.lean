/- Plain arithmetic: powers by squaring, prime numbers, Fermat's little theorem, the two primes of the group. No program is in sight. -/
import Init
set_option linter.unusedVariables false
set_option linter.unusedSimpArgs false
namespace Go.Proofs.YtajpblfinenmjaaGreatDoor.Num

def pm (m : Nat) : Nat → Nat → Nat → Nat → Nat
 | 0, r, _, _ => r
 | f + 1, r, a, e => if e = 0 then r else pm m f (if e % 2 = 1 then r * a % m else r) (a * a % m) (e / 2)

end Go.Proofs.YtajpblfinenmjaaGreatDoor.Num
