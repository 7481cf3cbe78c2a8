import Derived.Test.YtiblnpnfaadmcaaGreatAmGp
/- No functions of this group here. -/
