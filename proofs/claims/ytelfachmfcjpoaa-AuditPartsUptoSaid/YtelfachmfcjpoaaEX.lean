/- What is proved by hand of functions that the printed texts call. -/
import Derived.Test.YtelfachmfcjpoaaEA
import Derived.Test.YtelfachmfcjpoaaTx
import Derived.Test.YtelfachmfcjpoaaTo
