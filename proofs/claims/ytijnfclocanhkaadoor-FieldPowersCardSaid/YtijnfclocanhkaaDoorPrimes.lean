/- The four moduli are prime numbers: chains of the test by powers (NumTh). Printed by genprimes.py. -/
import Derived.Test.YtijnfclocanhkaaDoorNumTh
set_option linter.unusedVariables false
set_option linter.unusedSimpArgs false
namespace Go.Num

theorem p_313 : IsPrime 313 := prime_of_trial 16 (by decide +kernel) (by decide +kernel) (by decide +kernel)
theorem p_5 : IsPrime 5 := prime_of_trial 1 (by decide +kernel) (by decide +kernel) (by decide +kernel)
theorem p_704251 : IsPrime 704251 := prime_of_two 313 5 2 2 p_313 p_5 (by decide +kernel) (by decide +kernel) (by decide +kernel) (by decide +kernel) (by decide +kernel) (by decide +kernel)
theorem p_78283 : IsPrime 78283 := prime_of_trial 278 (by decide +kernel) (by decide +kernel) (by decide +kernel)
theorem p_46076956964474543 : IsPrime 46076956964474543 := prime_of_two 704251 78283 2 2 p_704251 p_78283 (by decide +kernel) (by decide +kernel) (by decide +kernel) (by decide +kernel) (by decide +kernel) (by decide +kernel)
theorem p_3677 : IsPrime 3677 := prime_of_trial 59 (by decide +kernel) (by decide +kernel) (by decide +kernel)
theorem p_197 : IsPrime 197 := prime_of_trial 13 (by decide +kernel) (by decide +kernel) (by decide +kernel)
theorem p_66417393611 : IsPrime 66417393611 := prime_of_two 3677 197 2 2 p_3677 p_197 (by decide +kernel) (by decide +kernel) (by decide +kernel) (by decide +kernel) (by decide +kernel) (by decide +kernel)
theorem p_11290956913871 : IsPrime 11290956913871 := prime_of_one 66417393611 2 p_66417393611 (by decide +kernel) (by decide +kernel) (by decide +kernel) (by decide +kernel)
theorem p_774023187263532362759620327192479577272145303 : IsPrime 774023187263532362759620327192479577272145303 := prime_of_two 46076956964474543 11290956913871 2 2 p_46076956964474543 p_11290956913871 (by decide +kernel) (by decide +kernel) (by decide +kernel) (by decide +kernel) (by decide +kernel) (by decide +kernel)
theorem p_835945042244614951780389953367877943453916927241 : IsPrime 835945042244614951780389953367877943453916927241 := prime_of_one 774023187263532362759620327192479577272145303 2 p_774023187263532362759620327192479577272145303 (by decide +kernel) (by decide +kernel) (by decide +kernel) (by decide +kernel)
theorem p_115792089210356248762697446949407573530086143415290314195533631308867097853951 : IsPrime 115792089210356248762697446949407573530086143415290314195533631308867097853951 := prime_of_one 835945042244614951780389953367877943453916927241 2 p_835945042244614951780389953367877943453916927241 (by decide +kernel) (by decide +kernel) (by decide +kernel) (by decide +kernel)
theorem p_155317 : IsPrime 155317 := prime_of_trial 393 (by decide +kernel) (by decide +kernel) (by decide +kernel)
theorem p_191039911 : IsPrime 191039911 := prime_of_one 155317 2 p_155317 (by decide +kernel) (by decide +kernel) (by decide +kernel) (by decide +kernel)
theorem p_3023 : IsPrime 3023 := prime_of_trial 53 (by decide +kernel) (by decide +kernel) (by decide +kernel)
theorem p_208150935158385979 : IsPrime 208150935158385979 := prime_of_two 191039911 3023 2 2 p_191039911 p_3023 (by decide +kernel) (by decide +kernel) (by decide +kernel) (by decide +kernel) (by decide +kernel) (by decide +kernel)
theorem p_2624747550333869278416773953 : IsPrime 2624747550333869278416773953 := prime_of_one 208150935158385979 2 p_208150935158385979 (by decide +kernel) (by decide +kernel) (by decide +kernel) (by decide +kernel)
theorem p_104471 : IsPrime 104471 := prime_of_trial 322 (by decide +kernel) (by decide +kernel) (by decide +kernel)
theorem p_3969899 : IsPrime 3969899 := prime_of_one 104471 2 p_104471 (by decide +kernel) (by decide +kernel) (by decide +kernel) (by decide +kernel)
theorem p_1002328039319 : IsPrime 1002328039319 := prime_of_one 3969899 2 p_3969899 (by decide +kernel) (by decide +kernel) (by decide +kernel) (by decide +kernel)
theorem p_115792089210356248762697446949407573529996955224135760342422259061068512044369 : IsPrime 115792089210356248762697446949407573529996955224135760342422259061068512044369 := prime_of_two 2624747550333869278416773953 1002328039319 2 2 p_2624747550333869278416773953 p_1002328039319 (by decide +kernel) (by decide +kernel) (by decide +kernel) (by decide +kernel) (by decide +kernel) (by decide +kernel)
theorem p_991 : IsPrime 991 := prime_of_trial 30 (by decide +kernel) (by decide +kernel) (by decide +kernel)
theorem p_103 : IsPrime 103 := prime_of_trial 9 (by decide +kernel) (by decide +kernel) (by decide +kernel)
theorem p_8574133 : IsPrime 8574133 := prime_of_two 991 103 2 2 p_991 p_103 (by decide +kernel) (by decide +kernel) (by decide +kernel) (by decide +kernel) (by decide +kernel) (by decide +kernel)
theorem p_127 : IsPrime 127 := prime_of_trial 10 (by decide +kernel) (by decide +kernel) (by decide +kernel)
theorem p_1919519569386763 : IsPrime 1919519569386763 := prime_of_two 8574133 127 2 2 p_8574133 p_127 (by decide +kernel) (by decide +kernel) (by decide +kernel) (by decide +kernel) (by decide +kernel) (by decide +kernel)
theorem p_419 : IsPrime 419 := prime_of_trial 19 (by decide +kernel) (by decide +kernel) (by decide +kernel)
theorem p_97 : IsPrime 97 := prime_of_trial 8 (by decide +kernel) (by decide +kernel) (by decide +kernel)
theorem p_569003 : IsPrime 569003 := prime_of_two 419 97 2 2 p_419 p_97 (by decide +kernel) (by decide +kernel) (by decide +kernel) (by decide +kernel) (by decide +kernel) (by decide +kernel)
theorem p_2773320623 : IsPrime 2773320623 := prime_of_one 569003 2 p_569003 (by decide +kernel) (by decide +kernel) (by decide +kernel) (by decide +kernel)
theorem p_72106336199 : IsPrime 72106336199 := prime_of_one 2773320623 2 p_2773320623 (by decide +kernel) (by decide +kernel) (by decide +kernel) (by decide +kernel)
theorem p_75445702479781427272750846543864801 : IsPrime 75445702479781427272750846543864801 := prime_of_two 1919519569386763 72106336199 2 2 p_1919519569386763 p_72106336199 (by decide +kernel) (by decide +kernel) (by decide +kernel) (by decide +kernel) (by decide +kernel) (by decide +kernel)
theorem p_1723 : IsPrime 1723 := prime_of_trial 40 (by decide +kernel) (by decide +kernel) (by decide +kernel)
theorem p_430751 : IsPrime 430751 := prime_of_one 1723 2 p_1723 (by decide +kernel) (by decide +kernel) (by decide +kernel) (by decide +kernel)
theorem p_4153 : IsPrime 4153 := prime_of_trial 63 (by decide +kernel) (by decide +kernel) (by decide +kernel)
theorem p_31757755568855353 : IsPrime 31757755568855353 := prime_of_two 430751 4153 2 2 p_430751 p_4153 (by decide +kernel) (by decide +kernel) (by decide +kernel) (by decide +kernel) (by decide +kernel) (by decide +kernel)
theorem p_74058212732561358302231226437062788676166966415465897661863160754340907 : IsPrime 74058212732561358302231226437062788676166966415465897661863160754340907 := prime_of_two 75445702479781427272750846543864801 31757755568855353 2 2 p_75445702479781427272750846543864801 p_31757755568855353 (by decide +kernel) (by decide +kernel) (by decide +kernel) (by decide +kernel) (by decide +kernel) (by decide +kernel)
theorem p_57896044618658097711785492504343953926634992332820282019728792003956564819949 : IsPrime 57896044618658097711785492504343953926634992332820282019728792003956564819949 := prime_of_one 74058212732561358302231226437062788676166966415465897661863160754340907 2 p_74058212732561358302231226437062788676166966415465897661863160754340907 (by decide +kernel) (by decide +kernel) (by decide +kernel) (by decide +kernel)
theorem p_2551 : IsPrime 2551 := prime_of_trial 49 (by decide +kernel) (by decide +kernel) (by decide +kernel)
theorem p_1224481 : IsPrime 1224481 := prime_of_one 2551 2 p_2551 (by decide +kernel) (by decide +kernel) (by decide +kernel) (by decide +kernel)
theorem p_3797 : IsPrime 3797 := prime_of_trial 60 (by decide +kernel) (by decide +kernel) (by decide +kernel)
theorem p_531581 : IsPrime 531581 := prime_of_one 3797 2 p_3797 (by decide +kernel) (by decide +kernel) (by decide +kernel) (by decide +kernel)
theorem p_1257559732178653 : IsPrime 1257559732178653 := prime_of_two 1224481 531581 2 2 p_1224481 p_531581 (by decide +kernel) (by decide +kernel) (by decide +kernel) (by decide +kernel) (by decide +kernel) (by decide +kernel)
theorem p_4434155615661930479 : IsPrime 4434155615661930479 := prime_of_one 1257559732178653 2 p_1257559732178653 (by decide +kernel) (by decide +kernel) (by decide +kernel) (by decide +kernel)
theorem p_172054593956031949258510691 : IsPrime 172054593956031949258510691 := prime_of_one 4434155615661930479 2 p_4434155615661930479 (by decide +kernel) (by decide +kernel) (by decide +kernel) (by decide +kernel)
theorem p_19757330305831588566944191468367130476339 : IsPrime 19757330305831588566944191468367130476339 := prime_of_one 172054593956031949258510691 2 p_172054593956031949258510691 (by decide +kernel) (by decide +kernel) (by decide +kernel) (by decide +kernel)
theorem p_276602624281642239937218680557139826668747 : IsPrime 276602624281642239937218680557139826668747 := prime_of_one 19757330305831588566944191468367130476339 2 p_19757330305831588566944191468367130476339 (by decide +kernel) (by decide +kernel) (by decide +kernel) (by decide +kernel)
theorem p_7237005577332262213973186563042994240857116359379907606001950938285454250989 : IsPrime 7237005577332262213973186563042994240857116359379907606001950938285454250989 := prime_of_one 276602624281642239937218680557139826668747 2 p_276602624281642239937218680557139826668747 (by decide +kernel) (by decide +kernel) (by decide +kernel) (by decide +kernel)
theorem prime0 : IsPrime 115792089210356248762697446949407573530086143415290314195533631308867097853951 := p_115792089210356248762697446949407573530086143415290314195533631308867097853951
theorem prime1 : IsPrime 115792089210356248762697446949407573529996955224135760342422259061068512044369 := p_115792089210356248762697446949407573529996955224135760342422259061068512044369
theorem prime2 : IsPrime 57896044618658097711785492504343953926634992332820282019728792003956564819949 := p_57896044618658097711785492504343953926634992332820282019728792003956564819949
theorem prime3 : IsPrime 7237005577332262213973186563042994240857116359379907606001950938285454250989 := p_7237005577332262213973186563042994240857116359379907606001950938285454250989

end Go.Num
