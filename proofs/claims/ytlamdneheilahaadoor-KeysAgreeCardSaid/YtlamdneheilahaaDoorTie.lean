/-
  DERIVED. GIVEN WITH THE SEED: THE PROGRAM's TIES (one call each: nine closed facts by the kernel) AND EACH ROW's TIE, after the 31st guide's Derived/Test/Toyas{Tie, Card}.lean. No idea stands in it: it is a product of the set-up. Laid BY PROGRAM, IN A SANDBOX (cutbox-door.mjs). By AI agents, Wed Nov 11 2026. No macro, syntax, notation, axiom, sorry.
-/
import Derived.Test.YtlamdneheilahaaDoorRows
import Derived.LaidByTextLater
import Derived.SevenTiedAt
import Derived.LaidSub
import Derived.LaidOnce
namespace Go.Proofs.YtlamdneheilahaaDoor
open Go
set_option maxRecDepth 100000
theorem seatTie1 : Tryd.prog.laidByTextLater [("ipsecgate/chacha.quarters", Rows.laid_ipsecgate_chacha_quarters), ("ipsecgate/sha256.constants", Rows.laid_ipsecgate_sha256_constants), ("ipsecgate/sha256.initial", Rows.laid_ipsecgate_sha256_initial), ("ipsecgate/keys.sizes", Rows.laid_ipsecgate_keys_sizes)] [.data, .data, .data, .widerDeep] true :=
  Program.laidByTextLater_by_one 37 8 65 (by kernel_rfl) (by kernel_rfl) (by kernel_rfl) (by kernel_rfl) (by kernel_rfl) (by kernel_rfl) (fun _ _ => by kernel_rfl)
theorem noOwnUnsafe : Tryd.pinned.checked.prog.headLifts.contains "ownunsafe" = false := by kernel_rfl
theorem tie : Tryd.prog.laidByTextLater [("ipsecgate/sha256.constants", Rows.laid_ipsecgate_sha256_constants), ("ipsecgate/sha256.initial", Rows.laid_ipsecgate_sha256_initial)] [.data, .data] true :=
  Program.laidByTextLater.sub seatTie1 ["ipsecgate/sha256.constants", "ipsecgate/sha256.initial"] (by kernel_rfl) (by kernel_rfl)
theorem sha256Sums_row_tie : Rows.sha256SumsRow.laidByTextAt .later Tryd.pinned [.data, .data] true :=
  OpenClaim.laidByTextAt_later rfl rfl tie noOwnUnsafe
theorem sha256Pads_row_tie : Rows.sha256PadsRow.laidByTextAt .later Tryd.pinned [.data, .data] true :=
  OpenClaim.laidByTextAt_later rfl rfl tie noOwnUnsafe
theorem sha256Grows_row_tie : Rows.sha256GrowsRow.laidByTextAt .later Tryd.pinned [.data, .data] true :=
  OpenClaim.laidByTextAt_later rfl rfl tie noOwnUnsafe
theorem prfSums_row_tie : Rows.prfSumsRow.laidByTextAt .later Tryd.pinned [.data, .data] true :=
  OpenClaim.laidByTextAt_later rfl rfl tie noOwnUnsafe
theorem prfNests_row_tie : Rows.prfNestsRow.laidByTextAt .later Tryd.pinned [.data, .data] true :=
  OpenClaim.laidByTextAt_later rfl rfl tie noOwnUnsafe
theorem keysProve_row_tie : Rows.keysProveRow.laidByTextAt .later Tryd.pinned [.data, .data] true :=
  OpenClaim.laidByTextAt_later rfl rfl tie noOwnUnsafe
theorem prfMany_row_tie : Rows.prfManyRow.laidByTextAt .later Tryd.pinned [.data, .data] true :=
  OpenClaim.laidByTextAt_later rfl rfl tie noOwnUnsafe
theorem prfBegins_row_tie : Rows.prfBeginsRow.laidByTextAt .later Tryd.pinned [.data, .data] true :=
  OpenClaim.laidByTextAt_later rfl rfl tie noOwnUnsafe
theorem tie2 : Tryd.prog.laidByTextLater [("ipsecgate/sha256.constants", Rows.laid_ipsecgate_sha256_constants), ("ipsecgate/sha256.initial", Rows.laid_ipsecgate_sha256_initial), ("ipsecgate/keys.sizes", Rows.laid_ipsecgate_keys_sizes)] [.data, .data, .widerDeep] true :=
  Program.laidByTextLater.sub seatTie1 ["ipsecgate/sha256.constants", "ipsecgate/sha256.initial", "ipsecgate/keys.sizes"] (by kernel_rfl) (by kernel_rfl)
theorem keysChains_row_tie : Rows.keysChainsRow.laidByTextAt .later Tryd.pinned [.data, .data, .widerDeep] true :=
  OpenClaim.laidByTextAt_later rfl rfl tie2 noOwnUnsafe
theorem keysDerive_row_tie : Rows.keysDeriveRow.laidByTextAt .later Tryd.pinned [.data, .data, .widerDeep] true :=
  OpenClaim.laidByTextAt_later rfl rfl tie2 noOwnUnsafe
theorem keysAgree_row_tie : Rows.keysAgreeRow.laidByTextAt .later Tryd.pinned [.data, .data, .widerDeep] true :=
  OpenClaim.laidByTextAt_later rfl rfl tie2 noOwnUnsafe
theorem tie3 : Tryd.prog.laidByTextLater [("ipsecgate/chacha.quarters", Rows.laid_ipsecgate_chacha_quarters)] [.data] true :=
  Program.laidByTextLater.sub seatTie1 ["ipsecgate/chacha.quarters"] (by kernel_rfl) (by kernel_rfl)
theorem aeadSeals_row_tie : Rows.aeadSealsRow.laidByTextAt .later Tryd.pinned [.data] true :=
  OpenClaim.laidByTextAt_later rfl rfl tie3 noOwnUnsafe
theorem aeadOpens_row_tie : Rows.aeadOpensRow.laidByTextAt .later Tryd.pinned [.data] true :=
  OpenClaim.laidByTextAt_later rfl rfl tie3 noOwnUnsafe
theorem aeadReturns_row_tie : Rows.aeadReturnsRow.laidByTextAt .later Tryd.pinned [.data] true :=
  OpenClaim.laidByTextAt_later rfl rfl tie3 noOwnUnsafe
theorem aeadJoins_row_tie : Rows.aeadJoinsRow.laidByTextAt .later Tryd.pinned [.data] true :=
  OpenClaim.laidByTextAt_later rfl rfl tie3 noOwnUnsafe
theorem sha256SumsUpto_row_tie : Rows.sha256SumsUptoRow.laidByTextAt .later Tryd.pinned [.data, .data] true :=
  OpenClaim.laidByTextAt_later rfl rfl tie noOwnUnsafe
theorem sha256PadsUpto_row_tie : Rows.sha256PadsUptoRow.laidByTextAt .later Tryd.pinned [.data, .data] true :=
  OpenClaim.laidByTextAt_later rfl rfl tie noOwnUnsafe
theorem sha256GrowsUpto_row_tie : Rows.sha256GrowsUptoRow.laidByTextAt .later Tryd.pinned [.data, .data] true :=
  OpenClaim.laidByTextAt_later rfl rfl tie noOwnUnsafe
theorem prfSumsUpto_row_tie : Rows.prfSumsUptoRow.laidByTextAt .later Tryd.pinned [.data, .data] true :=
  OpenClaim.laidByTextAt_later rfl rfl tie noOwnUnsafe
theorem prfNestsUpto_row_tie : Rows.prfNestsUptoRow.laidByTextAt .later Tryd.pinned [.data, .data] true :=
  OpenClaim.laidByTextAt_later rfl rfl tie noOwnUnsafe
theorem keysProveUpto_row_tie : Rows.keysProveUptoRow.laidByTextAt .later Tryd.pinned [.data, .data] true :=
  OpenClaim.laidByTextAt_later rfl rfl tie noOwnUnsafe
theorem prfManyUpto_row_tie : Rows.prfManyUptoRow.laidByTextAt .later Tryd.pinned [.data, .data] true :=
  OpenClaim.laidByTextAt_later rfl rfl tie noOwnUnsafe
theorem prfBeginsUpto_row_tie : Rows.prfBeginsUptoRow.laidByTextAt .later Tryd.pinned [.data, .data] true :=
  OpenClaim.laidByTextAt_later rfl rfl tie noOwnUnsafe
theorem keysChainsUpto_row_tie : Rows.keysChainsUptoRow.laidByTextAt .later Tryd.pinned [.data, .data, .widerDeep] true :=
  OpenClaim.laidByTextAt_later rfl rfl tie2 noOwnUnsafe
theorem keysDeriveUpto_row_tie : Rows.keysDeriveUptoRow.laidByTextAt .later Tryd.pinned [.data, .data, .widerDeep] true :=
  OpenClaim.laidByTextAt_later rfl rfl tie2 noOwnUnsafe
theorem aeadSealsUpto_row_tie : Rows.aeadSealsUptoRow.laidByTextAt .later Tryd.pinned [.data] true :=
  OpenClaim.laidByTextAt_later rfl rfl tie3 noOwnUnsafe
theorem aeadOpensUpto_row_tie : Rows.aeadOpensUptoRow.laidByTextAt .later Tryd.pinned [.data] true :=
  OpenClaim.laidByTextAt_later rfl rfl tie3 noOwnUnsafe
theorem aeadReturnsUpto_row_tie : Rows.aeadReturnsUptoRow.laidByTextAt .later Tryd.pinned [.data] true :=
  OpenClaim.laidByTextAt_later rfl rfl tie3 noOwnUnsafe
theorem aeadJoinsUpto_row_tie : Rows.aeadJoinsUptoRow.laidByTextAt .later Tryd.pinned [.data] true :=
  OpenClaim.laidByTextAt_later rfl rfl tie3 noOwnUnsafe
theorem keysAgreeUpto_row_tie : Rows.keysAgreeUptoRow.laidByTextAt .later Tryd.pinned [.data, .data, .widerDeep] true :=
  OpenClaim.laidByTextAt_later rfl rfl tie2 noOwnUnsafe
end Go.Proofs.YtlamdneheilahaaDoor
