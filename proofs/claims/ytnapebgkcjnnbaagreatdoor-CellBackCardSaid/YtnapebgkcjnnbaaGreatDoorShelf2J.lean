/-
  The shelf's contracts at this dump, under a second name. No condition.
-/
import Derived.Test.YtnapebgkcjnnbaaGreatDoorShelfJ
