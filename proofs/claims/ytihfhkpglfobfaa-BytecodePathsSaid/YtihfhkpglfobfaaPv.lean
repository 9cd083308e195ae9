/- Values that are paths: where this seat has them. -/
import Derived.Test.YtihfhkpglfobfaaSame
import Derived.Test.YtihfhkpglfobfaaEpath
