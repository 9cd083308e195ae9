/- Nested blocks: each case reckoned. -/
import Derived.Test.YtnicnfchkdmieaaDoorSr
namespace Go.Proofs.YtnicnfchkdmieaaDoor
open Go.RowKit
set_option maxRecDepth 100000
theorem nest_0t : nestB 0 true = true := by decide +kernel
theorem nest_0f : nestB 0 false = true := by decide +kernel
theorem nest_1t : nestB 1 true = true := by decide +kernel
theorem nest_1f : nestB 1 false = true := by decide +kernel
theorem nest_2t : nestB 2 true = true := by decide +kernel
theorem nest_2f : nestB 2 false = true := by decide +kernel
theorem nest_3t : nestB 3 true = true := by decide +kernel
theorem nest_3f : nestB 3 false = true := by decide +kernel
theorem nest_4t : nestB 4 true = true := by decide +kernel
theorem nest_4f : nestB 4 false = true := by decide +kernel
theorem nest_5t : nestB 5 true = true := by decide +kernel
theorem nest_5f : nestB 5 false = true := by decide +kernel
theorem nest_6t : nestB 6 true = true := by decide +kernel
theorem nest_6f : nestB 6 false = true := by decide +kernel
theorem nest_7t : nestB 7 true = true := by decide +kernel
theorem nest_7f : nestB 7 false = true := by decide +kernel
theorem nest_8t : nestB 8 true = true := by decide +kernel
theorem nest_8f : nestB 8 false = true := by decide +kernel
theorem nest_9t : nestB 9 true = true := by decide +kernel
theorem nest_9f : nestB 9 false = true := by decide +kernel
theorem nest_10t : nestB 10 true = true := by decide +kernel
theorem nest_10f : nestB 10 false = true := by decide +kernel
theorem nest_11t : nestB 11 true = true := by decide +kernel
theorem nest_11f : nestB 11 false = true := by decide +kernel
theorem nest_12t : nestB 12 true = true := by decide +kernel
theorem nest_12f : nestB 12 false = true := by decide +kernel
theorem nest_13t : nestB 13 true = true := by decide +kernel
theorem nest_13f : nestB 13 false = true := by decide +kernel
theorem nest_14t : nestB 14 true = true := by decide +kernel
theorem nest_14f : nestB 14 false = true := by decide +kernel
theorem nest_15t : nestB 15 true = true := by decide +kernel
theorem nest_15f : nestB 15 false = true := by decide +kernel
theorem nest_16t : nestB 16 true = true := by decide +kernel
theorem nest_16f : nestB 16 false = true := by decide +kernel
theorem nest_17t : nestB 17 true = true := by decide +kernel
theorem nest_17f : nestB 17 false = true := by decide +kernel
theorem nest_18t : nestB 18 true = true := by decide +kernel
theorem nest_18f : nestB 18 false = true := by decide +kernel
theorem nest_19t : nestB 19 true = true := by decide +kernel
theorem nest_19f : nestB 19 false = true := by decide +kernel
theorem nest_20t : nestB 20 true = true := by decide +kernel
theorem nest_20f : nestB 20 false = true := by decide +kernel
theorem nest_21t : nestB 21 true = true := by decide +kernel
theorem nest_21f : nestB 21 false = true := by decide +kernel
theorem nest_22t : nestB 22 true = true := by decide +kernel
theorem nest_22f : nestB 22 false = true := by decide +kernel
theorem nest_23t : nestB 23 true = true := by decide +kernel
theorem nest_23f : nestB 23 false = true := by decide +kernel
theorem nest_24t : nestB 24 true = true := by decide +kernel
theorem nest_24f : nestB 24 false = true := by decide +kernel
theorem nest_25t : nestB 25 true = true := by decide +kernel
theorem nest_25f : nestB 25 false = true := by decide +kernel
theorem nest_26t : nestB 26 true = true := by decide +kernel
theorem nest_26f : nestB 26 false = true := by decide +kernel
theorem nest_27t : nestB 27 true = true := by decide +kernel
theorem nest_27f : nestB 27 false = true := by decide +kernel
theorem nest_28t : nestB 28 true = true := by decide +kernel
theorem nest_28f : nestB 28 false = true := by decide +kernel
theorem nest_29t : nestB 29 true = true := by decide +kernel
theorem nest_29f : nestB 29 false = true := by decide +kernel
theorem nest_30t : nestB 30 true = true := by decide +kernel
theorem nest_30f : nestB 30 false = true := by decide +kernel
theorem nest_31t : nestB 31 true = true := by decide +kernel
theorem nest_31f : nestB 31 false = true := by decide +kernel
theorem nest_32t : nestB 32 true = true := by decide +kernel
theorem nest_32f : nestB 32 false = true := by decide +kernel
theorem nest_33t : nestB 33 true = true := by decide +kernel
theorem nest_33f : nestB 33 false = true := by decide +kernel
theorem nest_34t : nestB 34 true = true := by decide +kernel
theorem nest_34f : nestB 34 false = true := by decide +kernel
theorem nest_35t : nestB 35 true = true := by decide +kernel
theorem nest_35f : nestB 35 false = true := by decide +kernel
theorem nest_36t : nestB 36 true = true := by decide +kernel
theorem nest_36f : nestB 36 false = true := by decide +kernel
theorem nest_37t : nestB 37 true = true := by decide +kernel
theorem nest_37f : nestB 37 false = true := by decide +kernel
theorem nest_38t : nestB 38 true = true := by decide +kernel
theorem nest_38f : nestB 38 false = true := by decide +kernel
theorem nest_39t : nestB 39 true = true := by decide +kernel
theorem nest_39f : nestB 39 false = true := by decide +kernel
theorem nest_ok : ∀ (k : Nat), k < 40 → ∀ d : Bool, nestB k d = true
  | 0, _, true => nest_0t
  | 0, _, false => nest_0f
  | 1, _, true => nest_1t
  | 1, _, false => nest_1f
  | 2, _, true => nest_2t
  | 2, _, false => nest_2f
  | 3, _, true => nest_3t
  | 3, _, false => nest_3f
  | 4, _, true => nest_4t
  | 4, _, false => nest_4f
  | 5, _, true => nest_5t
  | 5, _, false => nest_5f
  | 6, _, true => nest_6t
  | 6, _, false => nest_6f
  | 7, _, true => nest_7t
  | 7, _, false => nest_7f
  | 8, _, true => nest_8t
  | 8, _, false => nest_8f
  | 9, _, true => nest_9t
  | 9, _, false => nest_9f
  | 10, _, true => nest_10t
  | 10, _, false => nest_10f
  | 11, _, true => nest_11t
  | 11, _, false => nest_11f
  | 12, _, true => nest_12t
  | 12, _, false => nest_12f
  | 13, _, true => nest_13t
  | 13, _, false => nest_13f
  | 14, _, true => nest_14t
  | 14, _, false => nest_14f
  | 15, _, true => nest_15t
  | 15, _, false => nest_15f
  | 16, _, true => nest_16t
  | 16, _, false => nest_16f
  | 17, _, true => nest_17t
  | 17, _, false => nest_17f
  | 18, _, true => nest_18t
  | 18, _, false => nest_18f
  | 19, _, true => nest_19t
  | 19, _, false => nest_19f
  | 20, _, true => nest_20t
  | 20, _, false => nest_20f
  | 21, _, true => nest_21t
  | 21, _, false => nest_21f
  | 22, _, true => nest_22t
  | 22, _, false => nest_22f
  | 23, _, true => nest_23t
  | 23, _, false => nest_23f
  | 24, _, true => nest_24t
  | 24, _, false => nest_24f
  | 25, _, true => nest_25t
  | 25, _, false => nest_25f
  | 26, _, true => nest_26t
  | 26, _, false => nest_26f
  | 27, _, true => nest_27t
  | 27, _, false => nest_27f
  | 28, _, true => nest_28t
  | 28, _, false => nest_28f
  | 29, _, true => nest_29t
  | 29, _, false => nest_29f
  | 30, _, true => nest_30t
  | 30, _, false => nest_30f
  | 31, _, true => nest_31t
  | 31, _, false => nest_31f
  | 32, _, true => nest_32t
  | 32, _, false => nest_32f
  | 33, _, true => nest_33t
  | 33, _, false => nest_33f
  | 34, _, true => nest_34t
  | 34, _, false => nest_34f
  | 35, _, true => nest_35t
  | 35, _, false => nest_35f
  | 36, _, true => nest_36t
  | 36, _, false => nest_36f
  | 37, _, true => nest_37t
  | 37, _, false => nest_37f
  | 38, _, true => nest_38t
  | 38, _, false => nest_38f
  | 39, _, true => nest_39t
  | 39, _, false => nest_39f
  | n + 40, h, _ => by omega
end Go.Proofs.YtnicnfchkdmieaaDoor
