/- The ghost machine: an evaluator of the program's text over plain data, and its soundness. -/
import Derived.Test.YtajpblfinenmjaaDoorGmLoop
import Derived.Test.YtajpblfinenmjaaDoorGmInt
import Derived.KernelRfl
import Derived.Test.YtajpblfinenmjaaDoorFnuConcreteAgreesA
set_option linter.unusedVariables false
set_option linter.unusedSimpArgs false
/- Plain: rules by which a walk over shallow functions is decided. -/
namespace Go.Proofs.YtajpblfinenmjaaDoor.Pl
open Go
theorem w64_of {x : Int} (h : -9223372036854775808 ≤ x) (h' : x ≤ 9223372036854775807) : w64 x = x := w64_id h h'
theorem inR_of {i : Int} {n : Nat} (h : 0 ≤ i) (h' : i < (n : Int)) : inR i n = true := by simp [inR, h, h']
theorem room_of {n k : Nat} (h : n * k ≤ 140737488355328) : room n k = true := by simp [room, h]
theorem take_snoc {α : Type} (l : List α) (d : α) {i : Nat} (h : i < l.length) : l.take (i + 1) = l.take i ++ [l.getD i d] := by
  rw [List.take_add_one, List.getElem?_eq_getElem h]
  simp [List.getD, h]
end Go.Proofs.YtajpblfinenmjaaDoor.Pl

/- Plain: names, and what stands for what two of them share. -/
namespace Go.Proofs.YtajpblfinenmjaaDoor.Pl
open Go
/-- The name number i. -/
def nmD (i : Nat) : TT.den := (2, ((i / 5 * 1048576 + i % 5 + 1 : Nat) : Int), [], ())
def shD (i j : Nat) : TT.den := (5, 0, [mkT (nmD i), mkT (nmD j)], ())
def dvD (i j : Nat) : TT.den := (6, 1, [mkT (shD i j)], ())
def nb (l : List UInt8) : Nat := l.foldl (fun a b => a * 256 + b.toNat) 0
/-- The secret of the names i and i + j. -/
def agTab : List (List Nat) := [
  [99672172176814060415592461777643693503133997026325011342889456859555917903059, 44847771705707472276973979592602268715983787876205762607388879511962282686967, 675761807836547715533374712371499808386981070933379509577187927107350750399, 55946098881923109843418813180849762546727094349351672704573347256490088298096, 33531654010412076975097273598283477073439434316328726808870760281854144661008, 60165295741065010746218031895930605866534063911129021587188854960782992566387, 5139132962298197010602014911851957399065491916571143595641790280339615912477, 39079615706174493371427086121685569938239950174177540756992974189726783944611, 23070051864446007896920884648105311944760273226555345785049799368004410394842, 64105922034889896526331907798473360722045825397467496306635141619772983853781, 26445025292237875153846865668471294391344666824917167433052696055114132649172, 32542683501627892075607946526140469956373827363864888912106489895373793723645, 63157604963379329229875738189258882456979387806409882640371761730851904563787, 72597243063180604391244134792050229046853080014660412190033106403156398529675, 77816891123168291108162077196232208246727167769073766167681423858210116520558],
  [32385860909265812578765084083360115455199232418581885485780345062863495204518, 40795505862833909768560217676312088187648739022414595082574481078961151521312, 68652222292821875293817314231848224413243904938446119824111079240346560458288, 45087983767416558738301715587971069801273039198312828724063121106249639518518, 77081060468386386515322740918787538926482572634575007063458503511733308032530, 43984361711477143057225786194130683555999580994402182504703745673591797767832, 23987521094055969441188508421744289388550573057223517350335044314640904266647, 103588999108246376043640134222839211379099996189450070077336439263306941695891, 82179079927006110457313382490140335740645028666456608200674766140342979288556, 96965492830665957095261186500878798960704574159828196940635761083444149762794, 56110580170608525855271538054527075208705182345816389769869077396033221308329, 101943276026016217365653082478610891114165244491725573203477677614411018599732, 108542989074462631505881200407592050489388917828013415163041342772566324769760, 40263035449186723096611183809345856487108143499030072403723805146118710806776],
  [1298654212276730418399463652714690095668875254081081539108699042266904875681, 48581770430327692275264715754728002552941298987188429960889964967298352729092, 114670584310877141152596834199116053506736515534123641853607198443449774748564, 1157482763721003706948109536914992186909480022598413880842867084125487381930, 66371471922116295351548953586395721555298028761056115600163690698583124945990, 33522132621247764302046442863133286872981770557008827146585986459767678855628, 14411583817848664139012801555340648292981390289162625998617638696220613124441, 62811071019929682594212897022335265501238764535497619294431655321785629747569, 29761713831097632744103744169822649151295572739278438211736450038962641505867, 43053029688383388053080215625450583895681043046681303495398367733292688215060, 21951146582945614607916826730987721805444620270826055559388297700998391352897, 70927625439835371271020292407522242658226039354478818210974829508502268613073, 3927453107173562774711624846793984605108469061386930285153286938423432396085],
  [112120904880335856850542337267094924852607066374560211278696715450258915075877, 89510188513321490961641001026133035995924011041122093662721068849482966655684, 12190124154223348277964265436822680836206374818043004406851088164608368340799, 13051659722718077993173916096267606702932083668694953011226910016233145618442, 48863898494897939412383023321349383395226275701812947902542074629898004636067, 39325182097536055318231810325389275795019827287351650300148287695670514539950, 82717792854117691309302197744617228051547752555339836525387309274294606038367, 51661795199370904641011111943177081653476262736196773545963330608724543241807, 66393004639300962986730965717723660643078013462359109167025584133834227439591, 45897946247637760922752534174271505994288134109400986604074840806247682084754, 12393712579842574552017084004541736921884015633540779740562289631245816254326, 70779889201381134286809762471799371113027338421013971610905275016826491351781],
  [105650797655111012076247522113884892531898226647626140897207613787573631723294, 65260727192626103562845957681237801250858039934940164716714663892373876525300, 55520950916549831734346683255258592761106082309087429733817902291846758736966, 73622834667733602759745832169063558757030211690852021777406446450030304881091, 33000581350677227460172412522322345392918743306708010910306250264328060564157, 23455839199367481525206676316310807296563829319158553068812919103499639493053, 61040968415941379631025576859092288353168012749748636252124099381328942937242, 8545345705084193924108796589892205807308496586993449208435095405106655575922, 56064406344587272108036870074642329992978624464274537708154399312588864555436, 25018988269761211342772457380850287115419019860376870548874142719757792524571, 12320611865518529920844026808547645440061575490569634491756218458554842291311],
  [84905047625398444625624068996679406716352002107385245768925142336472279660036, 39889891767513327423408834394304998222822810396314856211699612666574250501571, 13095301989621174158303409115431888118071157501124663997975127128213182893228, 28482089670751393711067412120072345630761436988581045663246298308069047196867, 45601966140806492933650810986870494571319225565420310281753566669893125005415, 47231159552096076919723036562257576240362030130583634435075567135283524438427, 21516688078079705390169546070003973087439412736078929660866570335429788010193, 75348774219674647611962225730034922915960730491850436143856495397265050899203, 66746735964992331247448461686071679672425950065105325901539877649845768929690, 39149771911507956452424345243204301314681126163412715365268023780453123122082],
  [60284830709766946651665781422465626127077610397775749369331109324897881802885, 109208597335712997459883462747923780195068290679223029424650233461655644058199, 2052455431248963985872311339272518068900501639613902322725909311783951281212, 104196583929360376559404057549854011266996244710905532230641687431198247407532, 49401485124350644133665951741259842424498085127292028560653642137132980337024, 28455174717838527511955025062206394880086278175001619349795435402561735459336, 89150282831594509024201006997832589113359713296838524024368626529600469181169, 113677065139366666949762719912304328164762023890340021559869832943297441714222, 6264261532572414138853203032037551148539433387223814454905864095954112384893],
  [12854665470447354126041430626979731361701054306460478199322363721667225377573, 74632566959304038626919006383462258213911049350062179661094931548064664158629, 62566500388295076837050905449792453821700765197780143173947299306067228001193, 83409093717138729328132228231781360503137168235171812402429511768972858495513, 114492917106548820160934658028599107458404314237131924592850680126826510827913, 37941085833434405814324353995426487948977230173355896416584690461696070725391, 36000151531906268401666488914091683245877612734316128952510074162315482332392, 76079024542272222216660980661663862098385172280114162908798070521854338156905],
  [27850270873944766915024694990538913748226773735145999676527902708870726050965, 76598103320258848474756573369392282142938357269896014688045866392883768922430, 42851824339903322641375124142818133745394236864785877104324486054179339424689, 36274827428581524783270419535454548774190950150938855846421134607623300094211, 72416656585831693754539432645924578524949873616093583514404094428898645255637, 51493707686165739165213015760690799235777478205381869316044254342681261059018, 65313971941245681182040718620598400413062896178106199709136423576537518413399],
  [228897956576933901738472115241690409541634953613663081408909747085015006135, 29183620900648238504862342762806755135120807366112160404846433497176885496849, 28352047210902247426078060000454238663846613946715881648959941428359767815, 98590091532318593081479884397104726699875454277078350912193656097172493006821, 5403267462637301088247126931182232155224950894982307357441301259768102802236, 110635858518424800310268378475469849698310572102363782580327490580041925451415],
  [63010559149320383142182228045036329063272967206538131234604104933957177285394, 108123821122527480917510203452426774021786664530164733815271797707650143490068, 76147663936699679209742944171409896946681845974645139273550595861322132353581, 60564104506810985894209268159382401677014029084300987024722675192276276084611, 16362939928518610147743388824861278641020081970799071390996193467116996883191],
  [55893464927616037203899506135662876462636841622118065263439001781167637998879, 38268207998955419851409789368821881289117462275763996329643876324888031209363, 82110505043085636408130928569173706915571939447388201797309470875154647597846, 62436275958735555440356051282368931588575373001480809005441033164753126174702],
  [19526095680204825915248086929554079978814561058841127398656224957848660618233, 43636275827481466022544041655668700854284413784162733883706978228352338464721, 37405970496259918684911808099336713424522319222639253682142685472024993269053],
  [55903191092622030898723062537779194194448634041270748739116171408445063437513, 93175792022090550646458034229548049911219304159997102708747332884350119745739],
  [91951856731929639537557219199773974007907745976913531045360095989579283123598]]
def tb (i j : Nat) : Nat := (agTab.getD i []).getD (j - i) 0
def tb2 (i j : Nat) : Nat := tb (min i j) (max i j)
theorem tb_apart : ((List.range 15).all fun a => (List.range 15).all fun b => (List.range 15).all fun d => Nat.beq b d || !(Nat.beq (tb2 a b) (tb2 a d))) = true := by kernel_rfl
theorem tb_ne {a b d : Nat} (ha : a < 15) (hb : b < 15) (hd : d < 15) (h : tb2 a b = tb2 a d) : b = d := by
  have h1 := List.all_eq_true.1 (List.all_eq_true.1 (List.all_eq_true.1 tb_apart a (by simpa using ha)) b (by simpa using hb)) d (by simpa using hd)
  rw [h, Nat.beq_refl] at h1
  simp at h1
  exact h1
end Go.Proofs.YtajpblfinenmjaaDoor.Pl

/- Plain: the secrets, reckoned. -/
namespace Go.Proofs.YtajpblfinenmjaaDoor.Pl
open Go
theorem ag_0_0 : (concrete_Secret 18446744073709551616 (dvD 0 0)).map (fun r => (r.1.1, r.2.1.length, nb r.2.1)) = some ((0 : Int), 32, tb 0 0) := by kernel_rfl
theorem ag_0_1 : (concrete_Secret 18446744073709551616 (dvD 0 1)).map (fun r => (r.1.1, r.2.1.length, nb r.2.1)) = some ((0 : Int), 32, tb 0 1) := by kernel_rfl
theorem ag_0_2 : (concrete_Secret 18446744073709551616 (dvD 0 2)).map (fun r => (r.1.1, r.2.1.length, nb r.2.1)) = some ((0 : Int), 32, tb 0 2) := by kernel_rfl
theorem ag_0_3 : (concrete_Secret 18446744073709551616 (dvD 0 3)).map (fun r => (r.1.1, r.2.1.length, nb r.2.1)) = some ((0 : Int), 32, tb 0 3) := by kernel_rfl
theorem ag_0_4 : (concrete_Secret 18446744073709551616 (dvD 0 4)).map (fun r => (r.1.1, r.2.1.length, nb r.2.1)) = some ((0 : Int), 32, tb 0 4) := by kernel_rfl
theorem ag_0_5 : (concrete_Secret 18446744073709551616 (dvD 0 5)).map (fun r => (r.1.1, r.2.1.length, nb r.2.1)) = some ((0 : Int), 32, tb 0 5) := by kernel_rfl
theorem ag_0_6 : (concrete_Secret 18446744073709551616 (dvD 0 6)).map (fun r => (r.1.1, r.2.1.length, nb r.2.1)) = some ((0 : Int), 32, tb 0 6) := by kernel_rfl
theorem ag_0_7 : (concrete_Secret 18446744073709551616 (dvD 0 7)).map (fun r => (r.1.1, r.2.1.length, nb r.2.1)) = some ((0 : Int), 32, tb 0 7) := by kernel_rfl
theorem ag_0_8 : (concrete_Secret 18446744073709551616 (dvD 0 8)).map (fun r => (r.1.1, r.2.1.length, nb r.2.1)) = some ((0 : Int), 32, tb 0 8) := by kernel_rfl
theorem ag_0_9 : (concrete_Secret 18446744073709551616 (dvD 0 9)).map (fun r => (r.1.1, r.2.1.length, nb r.2.1)) = some ((0 : Int), 32, tb 0 9) := by kernel_rfl
theorem ag_0_10 : (concrete_Secret 18446744073709551616 (dvD 0 10)).map (fun r => (r.1.1, r.2.1.length, nb r.2.1)) = some ((0 : Int), 32, tb 0 10) := by kernel_rfl
theorem ag_0_11 : (concrete_Secret 18446744073709551616 (dvD 0 11)).map (fun r => (r.1.1, r.2.1.length, nb r.2.1)) = some ((0 : Int), 32, tb 0 11) := by kernel_rfl
theorem ag_0_12 : (concrete_Secret 18446744073709551616 (dvD 0 12)).map (fun r => (r.1.1, r.2.1.length, nb r.2.1)) = some ((0 : Int), 32, tb 0 12) := by kernel_rfl
theorem ag_0_13 : (concrete_Secret 18446744073709551616 (dvD 0 13)).map (fun r => (r.1.1, r.2.1.length, nb r.2.1)) = some ((0 : Int), 32, tb 0 13) := by kernel_rfl
theorem ag_0_14 : (concrete_Secret 18446744073709551616 (dvD 0 14)).map (fun r => (r.1.1, r.2.1.length, nb r.2.1)) = some ((0 : Int), 32, tb 0 14) := by kernel_rfl
theorem ag_0 (j : Nat) (h : 0 ≤ j) (h2 : j < 15) : (concrete_Secret 18446744073709551616 (dvD 0 j)).map (fun r => (r.1.1, r.2.1.length, nb r.2.1)) = some ((0 : Int), 32, tb 0 j) := by
  match j, h, h2 with
  | 0, h, _ => exact ag_0_0
  | 1, h, _ => exact ag_0_1
  | 2, h, _ => exact ag_0_2
  | 3, h, _ => exact ag_0_3
  | 4, h, _ => exact ag_0_4
  | 5, h, _ => exact ag_0_5
  | 6, h, _ => exact ag_0_6
  | 7, h, _ => exact ag_0_7
  | 8, h, _ => exact ag_0_8
  | 9, h, _ => exact ag_0_9
  | 10, h, _ => exact ag_0_10
  | 11, h, _ => exact ag_0_11
  | 12, h, _ => exact ag_0_12
  | 13, h, _ => exact ag_0_13
  | 14, h, _ => exact ag_0_14
  | n + 15, _, h => exact absurd h (by omega)
theorem ag_1_1 : (concrete_Secret 18446744073709551616 (dvD 1 1)).map (fun r => (r.1.1, r.2.1.length, nb r.2.1)) = some ((0 : Int), 32, tb 1 1) := by kernel_rfl
theorem ag_1_2 : (concrete_Secret 18446744073709551616 (dvD 1 2)).map (fun r => (r.1.1, r.2.1.length, nb r.2.1)) = some ((0 : Int), 32, tb 1 2) := by kernel_rfl
theorem ag_1_3 : (concrete_Secret 18446744073709551616 (dvD 1 3)).map (fun r => (r.1.1, r.2.1.length, nb r.2.1)) = some ((0 : Int), 32, tb 1 3) := by kernel_rfl
theorem ag_1_4 : (concrete_Secret 18446744073709551616 (dvD 1 4)).map (fun r => (r.1.1, r.2.1.length, nb r.2.1)) = some ((0 : Int), 32, tb 1 4) := by kernel_rfl
theorem ag_1_5 : (concrete_Secret 18446744073709551616 (dvD 1 5)).map (fun r => (r.1.1, r.2.1.length, nb r.2.1)) = some ((0 : Int), 32, tb 1 5) := by kernel_rfl
theorem ag_1_6 : (concrete_Secret 18446744073709551616 (dvD 1 6)).map (fun r => (r.1.1, r.2.1.length, nb r.2.1)) = some ((0 : Int), 32, tb 1 6) := by kernel_rfl
theorem ag_1_7 : (concrete_Secret 18446744073709551616 (dvD 1 7)).map (fun r => (r.1.1, r.2.1.length, nb r.2.1)) = some ((0 : Int), 32, tb 1 7) := by kernel_rfl
theorem ag_1_8 : (concrete_Secret 18446744073709551616 (dvD 1 8)).map (fun r => (r.1.1, r.2.1.length, nb r.2.1)) = some ((0 : Int), 32, tb 1 8) := by kernel_rfl
theorem ag_1_9 : (concrete_Secret 18446744073709551616 (dvD 1 9)).map (fun r => (r.1.1, r.2.1.length, nb r.2.1)) = some ((0 : Int), 32, tb 1 9) := by kernel_rfl
theorem ag_1_10 : (concrete_Secret 18446744073709551616 (dvD 1 10)).map (fun r => (r.1.1, r.2.1.length, nb r.2.1)) = some ((0 : Int), 32, tb 1 10) := by kernel_rfl
theorem ag_1_11 : (concrete_Secret 18446744073709551616 (dvD 1 11)).map (fun r => (r.1.1, r.2.1.length, nb r.2.1)) = some ((0 : Int), 32, tb 1 11) := by kernel_rfl
theorem ag_1_12 : (concrete_Secret 18446744073709551616 (dvD 1 12)).map (fun r => (r.1.1, r.2.1.length, nb r.2.1)) = some ((0 : Int), 32, tb 1 12) := by kernel_rfl
theorem ag_1_13 : (concrete_Secret 18446744073709551616 (dvD 1 13)).map (fun r => (r.1.1, r.2.1.length, nb r.2.1)) = some ((0 : Int), 32, tb 1 13) := by kernel_rfl
theorem ag_1_14 : (concrete_Secret 18446744073709551616 (dvD 1 14)).map (fun r => (r.1.1, r.2.1.length, nb r.2.1)) = some ((0 : Int), 32, tb 1 14) := by kernel_rfl
theorem ag_1 (j : Nat) (h : 1 ≤ j) (h2 : j < 15) : (concrete_Secret 18446744073709551616 (dvD 1 j)).map (fun r => (r.1.1, r.2.1.length, nb r.2.1)) = some ((0 : Int), 32, tb 1 j) := by
  match j, h, h2 with
  | 0, h, _ => exact absurd h (by decide)
  | 1, h, _ => exact ag_1_1
  | 2, h, _ => exact ag_1_2
  | 3, h, _ => exact ag_1_3
  | 4, h, _ => exact ag_1_4
  | 5, h, _ => exact ag_1_5
  | 6, h, _ => exact ag_1_6
  | 7, h, _ => exact ag_1_7
  | 8, h, _ => exact ag_1_8
  | 9, h, _ => exact ag_1_9
  | 10, h, _ => exact ag_1_10
  | 11, h, _ => exact ag_1_11
  | 12, h, _ => exact ag_1_12
  | 13, h, _ => exact ag_1_13
  | 14, h, _ => exact ag_1_14
  | n + 15, _, h => exact absurd h (by omega)
end Go.Proofs.YtajpblfinenmjaaDoor.Pl

/- Plain: the secrets, reckoned. -/
namespace Go.Proofs.YtajpblfinenmjaaDoor.Pl
open Go
theorem ag_2_2 : (concrete_Secret 18446744073709551616 (dvD 2 2)).map (fun r => (r.1.1, r.2.1.length, nb r.2.1)) = some ((0 : Int), 32, tb 2 2) := by kernel_rfl
theorem ag_2_3 : (concrete_Secret 18446744073709551616 (dvD 2 3)).map (fun r => (r.1.1, r.2.1.length, nb r.2.1)) = some ((0 : Int), 32, tb 2 3) := by kernel_rfl
theorem ag_2_4 : (concrete_Secret 18446744073709551616 (dvD 2 4)).map (fun r => (r.1.1, r.2.1.length, nb r.2.1)) = some ((0 : Int), 32, tb 2 4) := by kernel_rfl
theorem ag_2_5 : (concrete_Secret 18446744073709551616 (dvD 2 5)).map (fun r => (r.1.1, r.2.1.length, nb r.2.1)) = some ((0 : Int), 32, tb 2 5) := by kernel_rfl
theorem ag_2_6 : (concrete_Secret 18446744073709551616 (dvD 2 6)).map (fun r => (r.1.1, r.2.1.length, nb r.2.1)) = some ((0 : Int), 32, tb 2 6) := by kernel_rfl
theorem ag_2_7 : (concrete_Secret 18446744073709551616 (dvD 2 7)).map (fun r => (r.1.1, r.2.1.length, nb r.2.1)) = some ((0 : Int), 32, tb 2 7) := by kernel_rfl
theorem ag_2_8 : (concrete_Secret 18446744073709551616 (dvD 2 8)).map (fun r => (r.1.1, r.2.1.length, nb r.2.1)) = some ((0 : Int), 32, tb 2 8) := by kernel_rfl
theorem ag_2_9 : (concrete_Secret 18446744073709551616 (dvD 2 9)).map (fun r => (r.1.1, r.2.1.length, nb r.2.1)) = some ((0 : Int), 32, tb 2 9) := by kernel_rfl
theorem ag_2_10 : (concrete_Secret 18446744073709551616 (dvD 2 10)).map (fun r => (r.1.1, r.2.1.length, nb r.2.1)) = some ((0 : Int), 32, tb 2 10) := by kernel_rfl
theorem ag_2_11 : (concrete_Secret 18446744073709551616 (dvD 2 11)).map (fun r => (r.1.1, r.2.1.length, nb r.2.1)) = some ((0 : Int), 32, tb 2 11) := by kernel_rfl
theorem ag_2_12 : (concrete_Secret 18446744073709551616 (dvD 2 12)).map (fun r => (r.1.1, r.2.1.length, nb r.2.1)) = some ((0 : Int), 32, tb 2 12) := by kernel_rfl
theorem ag_2_13 : (concrete_Secret 18446744073709551616 (dvD 2 13)).map (fun r => (r.1.1, r.2.1.length, nb r.2.1)) = some ((0 : Int), 32, tb 2 13) := by kernel_rfl
theorem ag_2_14 : (concrete_Secret 18446744073709551616 (dvD 2 14)).map (fun r => (r.1.1, r.2.1.length, nb r.2.1)) = some ((0 : Int), 32, tb 2 14) := by kernel_rfl
theorem ag_2 (j : Nat) (h : 2 ≤ j) (h2 : j < 15) : (concrete_Secret 18446744073709551616 (dvD 2 j)).map (fun r => (r.1.1, r.2.1.length, nb r.2.1)) = some ((0 : Int), 32, tb 2 j) := by
  match j, h, h2 with
  | 0, h, _ => exact absurd h (by decide)
  | 1, h, _ => exact absurd h (by decide)
  | 2, h, _ => exact ag_2_2
  | 3, h, _ => exact ag_2_3
  | 4, h, _ => exact ag_2_4
  | 5, h, _ => exact ag_2_5
  | 6, h, _ => exact ag_2_6
  | 7, h, _ => exact ag_2_7
  | 8, h, _ => exact ag_2_8
  | 9, h, _ => exact ag_2_9
  | 10, h, _ => exact ag_2_10
  | 11, h, _ => exact ag_2_11
  | 12, h, _ => exact ag_2_12
  | 13, h, _ => exact ag_2_13
  | 14, h, _ => exact ag_2_14
  | n + 15, _, h => exact absurd h (by omega)
theorem ag_3_3 : (concrete_Secret 18446744073709551616 (dvD 3 3)).map (fun r => (r.1.1, r.2.1.length, nb r.2.1)) = some ((0 : Int), 32, tb 3 3) := by kernel_rfl
theorem ag_3_4 : (concrete_Secret 18446744073709551616 (dvD 3 4)).map (fun r => (r.1.1, r.2.1.length, nb r.2.1)) = some ((0 : Int), 32, tb 3 4) := by kernel_rfl
theorem ag_3_5 : (concrete_Secret 18446744073709551616 (dvD 3 5)).map (fun r => (r.1.1, r.2.1.length, nb r.2.1)) = some ((0 : Int), 32, tb 3 5) := by kernel_rfl
theorem ag_3_6 : (concrete_Secret 18446744073709551616 (dvD 3 6)).map (fun r => (r.1.1, r.2.1.length, nb r.2.1)) = some ((0 : Int), 32, tb 3 6) := by kernel_rfl
theorem ag_3_7 : (concrete_Secret 18446744073709551616 (dvD 3 7)).map (fun r => (r.1.1, r.2.1.length, nb r.2.1)) = some ((0 : Int), 32, tb 3 7) := by kernel_rfl
theorem ag_3_8 : (concrete_Secret 18446744073709551616 (dvD 3 8)).map (fun r => (r.1.1, r.2.1.length, nb r.2.1)) = some ((0 : Int), 32, tb 3 8) := by kernel_rfl
theorem ag_3_9 : (concrete_Secret 18446744073709551616 (dvD 3 9)).map (fun r => (r.1.1, r.2.1.length, nb r.2.1)) = some ((0 : Int), 32, tb 3 9) := by kernel_rfl
theorem ag_3_10 : (concrete_Secret 18446744073709551616 (dvD 3 10)).map (fun r => (r.1.1, r.2.1.length, nb r.2.1)) = some ((0 : Int), 32, tb 3 10) := by kernel_rfl
theorem ag_3_11 : (concrete_Secret 18446744073709551616 (dvD 3 11)).map (fun r => (r.1.1, r.2.1.length, nb r.2.1)) = some ((0 : Int), 32, tb 3 11) := by kernel_rfl
theorem ag_3_12 : (concrete_Secret 18446744073709551616 (dvD 3 12)).map (fun r => (r.1.1, r.2.1.length, nb r.2.1)) = some ((0 : Int), 32, tb 3 12) := by kernel_rfl
theorem ag_3_13 : (concrete_Secret 18446744073709551616 (dvD 3 13)).map (fun r => (r.1.1, r.2.1.length, nb r.2.1)) = some ((0 : Int), 32, tb 3 13) := by kernel_rfl
theorem ag_3_14 : (concrete_Secret 18446744073709551616 (dvD 3 14)).map (fun r => (r.1.1, r.2.1.length, nb r.2.1)) = some ((0 : Int), 32, tb 3 14) := by kernel_rfl
theorem ag_3 (j : Nat) (h : 3 ≤ j) (h2 : j < 15) : (concrete_Secret 18446744073709551616 (dvD 3 j)).map (fun r => (r.1.1, r.2.1.length, nb r.2.1)) = some ((0 : Int), 32, tb 3 j) := by
  match j, h, h2 with
  | 0, h, _ => exact absurd h (by decide)
  | 1, h, _ => exact absurd h (by decide)
  | 2, h, _ => exact absurd h (by decide)
  | 3, h, _ => exact ag_3_3
  | 4, h, _ => exact ag_3_4
  | 5, h, _ => exact ag_3_5
  | 6, h, _ => exact ag_3_6
  | 7, h, _ => exact ag_3_7
  | 8, h, _ => exact ag_3_8
  | 9, h, _ => exact ag_3_9
  | 10, h, _ => exact ag_3_10
  | 11, h, _ => exact ag_3_11
  | 12, h, _ => exact ag_3_12
  | 13, h, _ => exact ag_3_13
  | 14, h, _ => exact ag_3_14
  | n + 15, _, h => exact absurd h (by omega)
end Go.Proofs.YtajpblfinenmjaaDoor.Pl

/- Plain: the secrets, reckoned. -/
namespace Go.Proofs.YtajpblfinenmjaaDoor.Pl
open Go
theorem ag_4_4 : (concrete_Secret 18446744073709551616 (dvD 4 4)).map (fun r => (r.1.1, r.2.1.length, nb r.2.1)) = some ((0 : Int), 32, tb 4 4) := by kernel_rfl
theorem ag_4_5 : (concrete_Secret 18446744073709551616 (dvD 4 5)).map (fun r => (r.1.1, r.2.1.length, nb r.2.1)) = some ((0 : Int), 32, tb 4 5) := by kernel_rfl
theorem ag_4_6 : (concrete_Secret 18446744073709551616 (dvD 4 6)).map (fun r => (r.1.1, r.2.1.length, nb r.2.1)) = some ((0 : Int), 32, tb 4 6) := by kernel_rfl
theorem ag_4_7 : (concrete_Secret 18446744073709551616 (dvD 4 7)).map (fun r => (r.1.1, r.2.1.length, nb r.2.1)) = some ((0 : Int), 32, tb 4 7) := by kernel_rfl
theorem ag_4_8 : (concrete_Secret 18446744073709551616 (dvD 4 8)).map (fun r => (r.1.1, r.2.1.length, nb r.2.1)) = some ((0 : Int), 32, tb 4 8) := by kernel_rfl
theorem ag_4_9 : (concrete_Secret 18446744073709551616 (dvD 4 9)).map (fun r => (r.1.1, r.2.1.length, nb r.2.1)) = some ((0 : Int), 32, tb 4 9) := by kernel_rfl
theorem ag_4_10 : (concrete_Secret 18446744073709551616 (dvD 4 10)).map (fun r => (r.1.1, r.2.1.length, nb r.2.1)) = some ((0 : Int), 32, tb 4 10) := by kernel_rfl
theorem ag_4_11 : (concrete_Secret 18446744073709551616 (dvD 4 11)).map (fun r => (r.1.1, r.2.1.length, nb r.2.1)) = some ((0 : Int), 32, tb 4 11) := by kernel_rfl
theorem ag_4_12 : (concrete_Secret 18446744073709551616 (dvD 4 12)).map (fun r => (r.1.1, r.2.1.length, nb r.2.1)) = some ((0 : Int), 32, tb 4 12) := by kernel_rfl
theorem ag_4_13 : (concrete_Secret 18446744073709551616 (dvD 4 13)).map (fun r => (r.1.1, r.2.1.length, nb r.2.1)) = some ((0 : Int), 32, tb 4 13) := by kernel_rfl
theorem ag_4_14 : (concrete_Secret 18446744073709551616 (dvD 4 14)).map (fun r => (r.1.1, r.2.1.length, nb r.2.1)) = some ((0 : Int), 32, tb 4 14) := by kernel_rfl
theorem ag_4 (j : Nat) (h : 4 ≤ j) (h2 : j < 15) : (concrete_Secret 18446744073709551616 (dvD 4 j)).map (fun r => (r.1.1, r.2.1.length, nb r.2.1)) = some ((0 : Int), 32, tb 4 j) := by
  match j, h, h2 with
  | 0, h, _ => exact absurd h (by decide)
  | 1, h, _ => exact absurd h (by decide)
  | 2, h, _ => exact absurd h (by decide)
  | 3, h, _ => exact absurd h (by decide)
  | 4, h, _ => exact ag_4_4
  | 5, h, _ => exact ag_4_5
  | 6, h, _ => exact ag_4_6
  | 7, h, _ => exact ag_4_7
  | 8, h, _ => exact ag_4_8
  | 9, h, _ => exact ag_4_9
  | 10, h, _ => exact ag_4_10
  | 11, h, _ => exact ag_4_11
  | 12, h, _ => exact ag_4_12
  | 13, h, _ => exact ag_4_13
  | 14, h, _ => exact ag_4_14
  | n + 15, _, h => exact absurd h (by omega)
theorem ag_5_5 : (concrete_Secret 18446744073709551616 (dvD 5 5)).map (fun r => (r.1.1, r.2.1.length, nb r.2.1)) = some ((0 : Int), 32, tb 5 5) := by kernel_rfl
theorem ag_5_6 : (concrete_Secret 18446744073709551616 (dvD 5 6)).map (fun r => (r.1.1, r.2.1.length, nb r.2.1)) = some ((0 : Int), 32, tb 5 6) := by kernel_rfl
theorem ag_5_7 : (concrete_Secret 18446744073709551616 (dvD 5 7)).map (fun r => (r.1.1, r.2.1.length, nb r.2.1)) = some ((0 : Int), 32, tb 5 7) := by kernel_rfl
theorem ag_5_8 : (concrete_Secret 18446744073709551616 (dvD 5 8)).map (fun r => (r.1.1, r.2.1.length, nb r.2.1)) = some ((0 : Int), 32, tb 5 8) := by kernel_rfl
theorem ag_5_9 : (concrete_Secret 18446744073709551616 (dvD 5 9)).map (fun r => (r.1.1, r.2.1.length, nb r.2.1)) = some ((0 : Int), 32, tb 5 9) := by kernel_rfl
theorem ag_5_10 : (concrete_Secret 18446744073709551616 (dvD 5 10)).map (fun r => (r.1.1, r.2.1.length, nb r.2.1)) = some ((0 : Int), 32, tb 5 10) := by kernel_rfl
theorem ag_5_11 : (concrete_Secret 18446744073709551616 (dvD 5 11)).map (fun r => (r.1.1, r.2.1.length, nb r.2.1)) = some ((0 : Int), 32, tb 5 11) := by kernel_rfl
theorem ag_5_12 : (concrete_Secret 18446744073709551616 (dvD 5 12)).map (fun r => (r.1.1, r.2.1.length, nb r.2.1)) = some ((0 : Int), 32, tb 5 12) := by kernel_rfl
theorem ag_5_13 : (concrete_Secret 18446744073709551616 (dvD 5 13)).map (fun r => (r.1.1, r.2.1.length, nb r.2.1)) = some ((0 : Int), 32, tb 5 13) := by kernel_rfl
theorem ag_5_14 : (concrete_Secret 18446744073709551616 (dvD 5 14)).map (fun r => (r.1.1, r.2.1.length, nb r.2.1)) = some ((0 : Int), 32, tb 5 14) := by kernel_rfl
theorem ag_5 (j : Nat) (h : 5 ≤ j) (h2 : j < 15) : (concrete_Secret 18446744073709551616 (dvD 5 j)).map (fun r => (r.1.1, r.2.1.length, nb r.2.1)) = some ((0 : Int), 32, tb 5 j) := by
  match j, h, h2 with
  | 0, h, _ => exact absurd h (by decide)
  | 1, h, _ => exact absurd h (by decide)
  | 2, h, _ => exact absurd h (by decide)
  | 3, h, _ => exact absurd h (by decide)
  | 4, h, _ => exact absurd h (by decide)
  | 5, h, _ => exact ag_5_5
  | 6, h, _ => exact ag_5_6
  | 7, h, _ => exact ag_5_7
  | 8, h, _ => exact ag_5_8
  | 9, h, _ => exact ag_5_9
  | 10, h, _ => exact ag_5_10
  | 11, h, _ => exact ag_5_11
  | 12, h, _ => exact ag_5_12
  | 13, h, _ => exact ag_5_13
  | 14, h, _ => exact ag_5_14
  | n + 15, _, h => exact absurd h (by omega)
theorem ag_6_6 : (concrete_Secret 18446744073709551616 (dvD 6 6)).map (fun r => (r.1.1, r.2.1.length, nb r.2.1)) = some ((0 : Int), 32, tb 6 6) := by kernel_rfl
theorem ag_6_7 : (concrete_Secret 18446744073709551616 (dvD 6 7)).map (fun r => (r.1.1, r.2.1.length, nb r.2.1)) = some ((0 : Int), 32, tb 6 7) := by kernel_rfl
theorem ag_6_8 : (concrete_Secret 18446744073709551616 (dvD 6 8)).map (fun r => (r.1.1, r.2.1.length, nb r.2.1)) = some ((0 : Int), 32, tb 6 8) := by kernel_rfl
theorem ag_6_9 : (concrete_Secret 18446744073709551616 (dvD 6 9)).map (fun r => (r.1.1, r.2.1.length, nb r.2.1)) = some ((0 : Int), 32, tb 6 9) := by kernel_rfl
theorem ag_6_10 : (concrete_Secret 18446744073709551616 (dvD 6 10)).map (fun r => (r.1.1, r.2.1.length, nb r.2.1)) = some ((0 : Int), 32, tb 6 10) := by kernel_rfl
theorem ag_6_11 : (concrete_Secret 18446744073709551616 (dvD 6 11)).map (fun r => (r.1.1, r.2.1.length, nb r.2.1)) = some ((0 : Int), 32, tb 6 11) := by kernel_rfl
theorem ag_6_12 : (concrete_Secret 18446744073709551616 (dvD 6 12)).map (fun r => (r.1.1, r.2.1.length, nb r.2.1)) = some ((0 : Int), 32, tb 6 12) := by kernel_rfl
theorem ag_6_13 : (concrete_Secret 18446744073709551616 (dvD 6 13)).map (fun r => (r.1.1, r.2.1.length, nb r.2.1)) = some ((0 : Int), 32, tb 6 13) := by kernel_rfl
theorem ag_6_14 : (concrete_Secret 18446744073709551616 (dvD 6 14)).map (fun r => (r.1.1, r.2.1.length, nb r.2.1)) = some ((0 : Int), 32, tb 6 14) := by kernel_rfl
theorem ag_6 (j : Nat) (h : 6 ≤ j) (h2 : j < 15) : (concrete_Secret 18446744073709551616 (dvD 6 j)).map (fun r => (r.1.1, r.2.1.length, nb r.2.1)) = some ((0 : Int), 32, tb 6 j) := by
  match j, h, h2 with
  | 0, h, _ => exact absurd h (by decide)
  | 1, h, _ => exact absurd h (by decide)
  | 2, h, _ => exact absurd h (by decide)
  | 3, h, _ => exact absurd h (by decide)
  | 4, h, _ => exact absurd h (by decide)
  | 5, h, _ => exact absurd h (by decide)
  | 6, h, _ => exact ag_6_6
  | 7, h, _ => exact ag_6_7
  | 8, h, _ => exact ag_6_8
  | 9, h, _ => exact ag_6_9
  | 10, h, _ => exact ag_6_10
  | 11, h, _ => exact ag_6_11
  | 12, h, _ => exact ag_6_12
  | 13, h, _ => exact ag_6_13
  | 14, h, _ => exact ag_6_14
  | n + 15, _, h => exact absurd h (by omega)
end Go.Proofs.YtajpblfinenmjaaDoor.Pl

/- Plain: the secrets, reckoned. -/
namespace Go.Proofs.YtajpblfinenmjaaDoor.Pl
open Go
theorem ag_7_7 : (concrete_Secret 18446744073709551616 (dvD 7 7)).map (fun r => (r.1.1, r.2.1.length, nb r.2.1)) = some ((0 : Int), 32, tb 7 7) := by kernel_rfl
theorem ag_7_8 : (concrete_Secret 18446744073709551616 (dvD 7 8)).map (fun r => (r.1.1, r.2.1.length, nb r.2.1)) = some ((0 : Int), 32, tb 7 8) := by kernel_rfl
theorem ag_7_9 : (concrete_Secret 18446744073709551616 (dvD 7 9)).map (fun r => (r.1.1, r.2.1.length, nb r.2.1)) = some ((0 : Int), 32, tb 7 9) := by kernel_rfl
theorem ag_7_10 : (concrete_Secret 18446744073709551616 (dvD 7 10)).map (fun r => (r.1.1, r.2.1.length, nb r.2.1)) = some ((0 : Int), 32, tb 7 10) := by kernel_rfl
theorem ag_7_11 : (concrete_Secret 18446744073709551616 (dvD 7 11)).map (fun r => (r.1.1, r.2.1.length, nb r.2.1)) = some ((0 : Int), 32, tb 7 11) := by kernel_rfl
theorem ag_7_12 : (concrete_Secret 18446744073709551616 (dvD 7 12)).map (fun r => (r.1.1, r.2.1.length, nb r.2.1)) = some ((0 : Int), 32, tb 7 12) := by kernel_rfl
theorem ag_7_13 : (concrete_Secret 18446744073709551616 (dvD 7 13)).map (fun r => (r.1.1, r.2.1.length, nb r.2.1)) = some ((0 : Int), 32, tb 7 13) := by kernel_rfl
theorem ag_7_14 : (concrete_Secret 18446744073709551616 (dvD 7 14)).map (fun r => (r.1.1, r.2.1.length, nb r.2.1)) = some ((0 : Int), 32, tb 7 14) := by kernel_rfl
theorem ag_7 (j : Nat) (h : 7 ≤ j) (h2 : j < 15) : (concrete_Secret 18446744073709551616 (dvD 7 j)).map (fun r => (r.1.1, r.2.1.length, nb r.2.1)) = some ((0 : Int), 32, tb 7 j) := by
  match j, h, h2 with
  | 0, h, _ => exact absurd h (by decide)
  | 1, h, _ => exact absurd h (by decide)
  | 2, h, _ => exact absurd h (by decide)
  | 3, h, _ => exact absurd h (by decide)
  | 4, h, _ => exact absurd h (by decide)
  | 5, h, _ => exact absurd h (by decide)
  | 6, h, _ => exact absurd h (by decide)
  | 7, h, _ => exact ag_7_7
  | 8, h, _ => exact ag_7_8
  | 9, h, _ => exact ag_7_9
  | 10, h, _ => exact ag_7_10
  | 11, h, _ => exact ag_7_11
  | 12, h, _ => exact ag_7_12
  | 13, h, _ => exact ag_7_13
  | 14, h, _ => exact ag_7_14
  | n + 15, _, h => exact absurd h (by omega)
theorem ag_8_8 : (concrete_Secret 18446744073709551616 (dvD 8 8)).map (fun r => (r.1.1, r.2.1.length, nb r.2.1)) = some ((0 : Int), 32, tb 8 8) := by kernel_rfl
theorem ag_8_9 : (concrete_Secret 18446744073709551616 (dvD 8 9)).map (fun r => (r.1.1, r.2.1.length, nb r.2.1)) = some ((0 : Int), 32, tb 8 9) := by kernel_rfl
theorem ag_8_10 : (concrete_Secret 18446744073709551616 (dvD 8 10)).map (fun r => (r.1.1, r.2.1.length, nb r.2.1)) = some ((0 : Int), 32, tb 8 10) := by kernel_rfl
theorem ag_8_11 : (concrete_Secret 18446744073709551616 (dvD 8 11)).map (fun r => (r.1.1, r.2.1.length, nb r.2.1)) = some ((0 : Int), 32, tb 8 11) := by kernel_rfl
theorem ag_8_12 : (concrete_Secret 18446744073709551616 (dvD 8 12)).map (fun r => (r.1.1, r.2.1.length, nb r.2.1)) = some ((0 : Int), 32, tb 8 12) := by kernel_rfl
theorem ag_8_13 : (concrete_Secret 18446744073709551616 (dvD 8 13)).map (fun r => (r.1.1, r.2.1.length, nb r.2.1)) = some ((0 : Int), 32, tb 8 13) := by kernel_rfl
theorem ag_8_14 : (concrete_Secret 18446744073709551616 (dvD 8 14)).map (fun r => (r.1.1, r.2.1.length, nb r.2.1)) = some ((0 : Int), 32, tb 8 14) := by kernel_rfl
theorem ag_8 (j : Nat) (h : 8 ≤ j) (h2 : j < 15) : (concrete_Secret 18446744073709551616 (dvD 8 j)).map (fun r => (r.1.1, r.2.1.length, nb r.2.1)) = some ((0 : Int), 32, tb 8 j) := by
  match j, h, h2 with
  | 0, h, _ => exact absurd h (by decide)
  | 1, h, _ => exact absurd h (by decide)
  | 2, h, _ => exact absurd h (by decide)
  | 3, h, _ => exact absurd h (by decide)
  | 4, h, _ => exact absurd h (by decide)
  | 5, h, _ => exact absurd h (by decide)
  | 6, h, _ => exact absurd h (by decide)
  | 7, h, _ => exact absurd h (by decide)
  | 8, h, _ => exact ag_8_8
  | 9, h, _ => exact ag_8_9
  | 10, h, _ => exact ag_8_10
  | 11, h, _ => exact ag_8_11
  | 12, h, _ => exact ag_8_12
  | 13, h, _ => exact ag_8_13
  | 14, h, _ => exact ag_8_14
  | n + 15, _, h => exact absurd h (by omega)
theorem ag_9_9 : (concrete_Secret 18446744073709551616 (dvD 9 9)).map (fun r => (r.1.1, r.2.1.length, nb r.2.1)) = some ((0 : Int), 32, tb 9 9) := by kernel_rfl
theorem ag_9_10 : (concrete_Secret 18446744073709551616 (dvD 9 10)).map (fun r => (r.1.1, r.2.1.length, nb r.2.1)) = some ((0 : Int), 32, tb 9 10) := by kernel_rfl
theorem ag_9_11 : (concrete_Secret 18446744073709551616 (dvD 9 11)).map (fun r => (r.1.1, r.2.1.length, nb r.2.1)) = some ((0 : Int), 32, tb 9 11) := by kernel_rfl
theorem ag_9_12 : (concrete_Secret 18446744073709551616 (dvD 9 12)).map (fun r => (r.1.1, r.2.1.length, nb r.2.1)) = some ((0 : Int), 32, tb 9 12) := by kernel_rfl
theorem ag_9_13 : (concrete_Secret 18446744073709551616 (dvD 9 13)).map (fun r => (r.1.1, r.2.1.length, nb r.2.1)) = some ((0 : Int), 32, tb 9 13) := by kernel_rfl
theorem ag_9_14 : (concrete_Secret 18446744073709551616 (dvD 9 14)).map (fun r => (r.1.1, r.2.1.length, nb r.2.1)) = some ((0 : Int), 32, tb 9 14) := by kernel_rfl
theorem ag_9 (j : Nat) (h : 9 ≤ j) (h2 : j < 15) : (concrete_Secret 18446744073709551616 (dvD 9 j)).map (fun r => (r.1.1, r.2.1.length, nb r.2.1)) = some ((0 : Int), 32, tb 9 j) := by
  match j, h, h2 with
  | 0, h, _ => exact absurd h (by decide)
  | 1, h, _ => exact absurd h (by decide)
  | 2, h, _ => exact absurd h (by decide)
  | 3, h, _ => exact absurd h (by decide)
  | 4, h, _ => exact absurd h (by decide)
  | 5, h, _ => exact absurd h (by decide)
  | 6, h, _ => exact absurd h (by decide)
  | 7, h, _ => exact absurd h (by decide)
  | 8, h, _ => exact absurd h (by decide)
  | 9, h, _ => exact ag_9_9
  | 10, h, _ => exact ag_9_10
  | 11, h, _ => exact ag_9_11
  | 12, h, _ => exact ag_9_12
  | 13, h, _ => exact ag_9_13
  | 14, h, _ => exact ag_9_14
  | n + 15, _, h => exact absurd h (by omega)
end Go.Proofs.YtajpblfinenmjaaDoor.Pl

/- Plain: the secrets, reckoned. -/
namespace Go.Proofs.YtajpblfinenmjaaDoor.Pl
open Go
theorem ag_10_10 : (concrete_Secret 18446744073709551616 (dvD 10 10)).map (fun r => (r.1.1, r.2.1.length, nb r.2.1)) = some ((0 : Int), 32, tb 10 10) := by kernel_rfl
theorem ag_10_11 : (concrete_Secret 18446744073709551616 (dvD 10 11)).map (fun r => (r.1.1, r.2.1.length, nb r.2.1)) = some ((0 : Int), 32, tb 10 11) := by kernel_rfl
theorem ag_10_12 : (concrete_Secret 18446744073709551616 (dvD 10 12)).map (fun r => (r.1.1, r.2.1.length, nb r.2.1)) = some ((0 : Int), 32, tb 10 12) := by kernel_rfl
theorem ag_10_13 : (concrete_Secret 18446744073709551616 (dvD 10 13)).map (fun r => (r.1.1, r.2.1.length, nb r.2.1)) = some ((0 : Int), 32, tb 10 13) := by kernel_rfl
theorem ag_10_14 : (concrete_Secret 18446744073709551616 (dvD 10 14)).map (fun r => (r.1.1, r.2.1.length, nb r.2.1)) = some ((0 : Int), 32, tb 10 14) := by kernel_rfl
theorem ag_10 (j : Nat) (h : 10 ≤ j) (h2 : j < 15) : (concrete_Secret 18446744073709551616 (dvD 10 j)).map (fun r => (r.1.1, r.2.1.length, nb r.2.1)) = some ((0 : Int), 32, tb 10 j) := by
  match j, h, h2 with
  | 0, h, _ => exact absurd h (by decide)
  | 1, h, _ => exact absurd h (by decide)
  | 2, h, _ => exact absurd h (by decide)
  | 3, h, _ => exact absurd h (by decide)
  | 4, h, _ => exact absurd h (by decide)
  | 5, h, _ => exact absurd h (by decide)
  | 6, h, _ => exact absurd h (by decide)
  | 7, h, _ => exact absurd h (by decide)
  | 8, h, _ => exact absurd h (by decide)
  | 9, h, _ => exact absurd h (by decide)
  | 10, h, _ => exact ag_10_10
  | 11, h, _ => exact ag_10_11
  | 12, h, _ => exact ag_10_12
  | 13, h, _ => exact ag_10_13
  | 14, h, _ => exact ag_10_14
  | n + 15, _, h => exact absurd h (by omega)
theorem ag_11_11 : (concrete_Secret 18446744073709551616 (dvD 11 11)).map (fun r => (r.1.1, r.2.1.length, nb r.2.1)) = some ((0 : Int), 32, tb 11 11) := by kernel_rfl
theorem ag_11_12 : (concrete_Secret 18446744073709551616 (dvD 11 12)).map (fun r => (r.1.1, r.2.1.length, nb r.2.1)) = some ((0 : Int), 32, tb 11 12) := by kernel_rfl
theorem ag_11_13 : (concrete_Secret 18446744073709551616 (dvD 11 13)).map (fun r => (r.1.1, r.2.1.length, nb r.2.1)) = some ((0 : Int), 32, tb 11 13) := by kernel_rfl
theorem ag_11_14 : (concrete_Secret 18446744073709551616 (dvD 11 14)).map (fun r => (r.1.1, r.2.1.length, nb r.2.1)) = some ((0 : Int), 32, tb 11 14) := by kernel_rfl
theorem ag_11 (j : Nat) (h : 11 ≤ j) (h2 : j < 15) : (concrete_Secret 18446744073709551616 (dvD 11 j)).map (fun r => (r.1.1, r.2.1.length, nb r.2.1)) = some ((0 : Int), 32, tb 11 j) := by
  match j, h, h2 with
  | 0, h, _ => exact absurd h (by decide)
  | 1, h, _ => exact absurd h (by decide)
  | 2, h, _ => exact absurd h (by decide)
  | 3, h, _ => exact absurd h (by decide)
  | 4, h, _ => exact absurd h (by decide)
  | 5, h, _ => exact absurd h (by decide)
  | 6, h, _ => exact absurd h (by decide)
  | 7, h, _ => exact absurd h (by decide)
  | 8, h, _ => exact absurd h (by decide)
  | 9, h, _ => exact absurd h (by decide)
  | 10, h, _ => exact absurd h (by decide)
  | 11, h, _ => exact ag_11_11
  | 12, h, _ => exact ag_11_12
  | 13, h, _ => exact ag_11_13
  | 14, h, _ => exact ag_11_14
  | n + 15, _, h => exact absurd h (by omega)
theorem ag_12_12 : (concrete_Secret 18446744073709551616 (dvD 12 12)).map (fun r => (r.1.1, r.2.1.length, nb r.2.1)) = some ((0 : Int), 32, tb 12 12) := by kernel_rfl
theorem ag_12_13 : (concrete_Secret 18446744073709551616 (dvD 12 13)).map (fun r => (r.1.1, r.2.1.length, nb r.2.1)) = some ((0 : Int), 32, tb 12 13) := by kernel_rfl
theorem ag_12_14 : (concrete_Secret 18446744073709551616 (dvD 12 14)).map (fun r => (r.1.1, r.2.1.length, nb r.2.1)) = some ((0 : Int), 32, tb 12 14) := by kernel_rfl
theorem ag_12 (j : Nat) (h : 12 ≤ j) (h2 : j < 15) : (concrete_Secret 18446744073709551616 (dvD 12 j)).map (fun r => (r.1.1, r.2.1.length, nb r.2.1)) = some ((0 : Int), 32, tb 12 j) := by
  match j, h, h2 with
  | 0, h, _ => exact absurd h (by decide)
  | 1, h, _ => exact absurd h (by decide)
  | 2, h, _ => exact absurd h (by decide)
  | 3, h, _ => exact absurd h (by decide)
  | 4, h, _ => exact absurd h (by decide)
  | 5, h, _ => exact absurd h (by decide)
  | 6, h, _ => exact absurd h (by decide)
  | 7, h, _ => exact absurd h (by decide)
  | 8, h, _ => exact absurd h (by decide)
  | 9, h, _ => exact absurd h (by decide)
  | 10, h, _ => exact absurd h (by decide)
  | 11, h, _ => exact absurd h (by decide)
  | 12, h, _ => exact ag_12_12
  | 13, h, _ => exact ag_12_13
  | 14, h, _ => exact ag_12_14
  | n + 15, _, h => exact absurd h (by omega)
theorem ag_13_13 : (concrete_Secret 18446744073709551616 (dvD 13 13)).map (fun r => (r.1.1, r.2.1.length, nb r.2.1)) = some ((0 : Int), 32, tb 13 13) := by kernel_rfl
theorem ag_13_14 : (concrete_Secret 18446744073709551616 (dvD 13 14)).map (fun r => (r.1.1, r.2.1.length, nb r.2.1)) = some ((0 : Int), 32, tb 13 14) := by kernel_rfl
theorem ag_13 (j : Nat) (h : 13 ≤ j) (h2 : j < 15) : (concrete_Secret 18446744073709551616 (dvD 13 j)).map (fun r => (r.1.1, r.2.1.length, nb r.2.1)) = some ((0 : Int), 32, tb 13 j) := by
  match j, h, h2 with
  | 0, h, _ => exact absurd h (by decide)
  | 1, h, _ => exact absurd h (by decide)
  | 2, h, _ => exact absurd h (by decide)
  | 3, h, _ => exact absurd h (by decide)
  | 4, h, _ => exact absurd h (by decide)
  | 5, h, _ => exact absurd h (by decide)
  | 6, h, _ => exact absurd h (by decide)
  | 7, h, _ => exact absurd h (by decide)
  | 8, h, _ => exact absurd h (by decide)
  | 9, h, _ => exact absurd h (by decide)
  | 10, h, _ => exact absurd h (by decide)
  | 11, h, _ => exact absurd h (by decide)
  | 12, h, _ => exact absurd h (by decide)
  | 13, h, _ => exact ag_13_13
  | 14, h, _ => exact ag_13_14
  | n + 15, _, h => exact absurd h (by omega)
theorem ag_14_14 : (concrete_Secret 18446744073709551616 (dvD 14 14)).map (fun r => (r.1.1, r.2.1.length, nb r.2.1)) = some ((0 : Int), 32, tb 14 14) := by kernel_rfl
theorem ag_14 (j : Nat) (h : 14 ≤ j) (h2 : j < 15) : (concrete_Secret 18446744073709551616 (dvD 14 j)).map (fun r => (r.1.1, r.2.1.length, nb r.2.1)) = some ((0 : Int), 32, tb 14 j) := by
  match j, h, h2 with
  | 0, h, _ => exact absurd h (by decide)
  | 1, h, _ => exact absurd h (by decide)
  | 2, h, _ => exact absurd h (by decide)
  | 3, h, _ => exact absurd h (by decide)
  | 4, h, _ => exact absurd h (by decide)
  | 5, h, _ => exact absurd h (by decide)
  | 6, h, _ => exact absurd h (by decide)
  | 7, h, _ => exact absurd h (by decide)
  | 8, h, _ => exact absurd h (by decide)
  | 9, h, _ => exact absurd h (by decide)
  | 10, h, _ => exact absurd h (by decide)
  | 11, h, _ => exact absurd h (by decide)
  | 12, h, _ => exact absurd h (by decide)
  | 13, h, _ => exact absurd h (by decide)
  | 14, h, _ => exact ag_14_14
  | n + 15, _, h => exact absurd h (by omega)
end Go.Proofs.YtajpblfinenmjaaDoor.Pl

/- Plain: names, pair by pair. -/
namespace Go.Proofs.YtajpblfinenmjaaDoor.Pl
open Go
noncomputable def agQ (i j : Nat) : Option (Int × Int × List Tree × Unit) := (ref26_Public 18446744073709551616 (nmD i)).bind fun p => (ref26_Agree 18446744073709551616 p.1.1 (nmD j)).map fun q => q.1.1
theorem agp_0_0 : agQ 0 0 = some (shD (min 0 0) (max 0 0)) := by kernel_rfl
theorem agp_0_1 : agQ 0 1 = some (shD (min 0 1) (max 0 1)) := by kernel_rfl
theorem agp_0_2 : agQ 0 2 = some (shD (min 0 2) (max 0 2)) := by kernel_rfl
theorem agp_0_3 : agQ 0 3 = some (shD (min 0 3) (max 0 3)) := by kernel_rfl
theorem agp_0_4 : agQ 0 4 = some (shD (min 0 4) (max 0 4)) := by kernel_rfl
theorem agp_0_5 : agQ 0 5 = some (shD (min 0 5) (max 0 5)) := by kernel_rfl
theorem agp_0_6 : agQ 0 6 = some (shD (min 0 6) (max 0 6)) := by kernel_rfl
theorem agp_0_7 : agQ 0 7 = some (shD (min 0 7) (max 0 7)) := by kernel_rfl
theorem agp_0_8 : agQ 0 8 = some (shD (min 0 8) (max 0 8)) := by kernel_rfl
theorem agp_0_9 : agQ 0 9 = some (shD (min 0 9) (max 0 9)) := by kernel_rfl
theorem agp_0_10 : agQ 0 10 = some (shD (min 0 10) (max 0 10)) := by kernel_rfl
theorem agp_0_11 : agQ 0 11 = some (shD (min 0 11) (max 0 11)) := by kernel_rfl
theorem agp_0_12 : agQ 0 12 = some (shD (min 0 12) (max 0 12)) := by kernel_rfl
theorem agp_0_13 : agQ 0 13 = some (shD (min 0 13) (max 0 13)) := by kernel_rfl
theorem agp_0_14 : agQ 0 14 = some (shD (min 0 14) (max 0 14)) := by kernel_rfl
theorem agp_0 (j : Nat) (h2 : j < 15) : agQ 0 j = some (shD (min 0 j) (max 0 j)) := by
  match j, h2 with
  | 0, _ => exact agp_0_0
  | 1, _ => exact agp_0_1
  | 2, _ => exact agp_0_2
  | 3, _ => exact agp_0_3
  | 4, _ => exact agp_0_4
  | 5, _ => exact agp_0_5
  | 6, _ => exact agp_0_6
  | 7, _ => exact agp_0_7
  | 8, _ => exact agp_0_8
  | 9, _ => exact agp_0_9
  | 10, _ => exact agp_0_10
  | 11, _ => exact agp_0_11
  | 12, _ => exact agp_0_12
  | 13, _ => exact agp_0_13
  | 14, _ => exact agp_0_14
  | n + 15, h => exact absurd h (by omega)
theorem agp_1_0 : agQ 1 0 = some (shD (min 1 0) (max 1 0)) := by kernel_rfl
theorem agp_1_1 : agQ 1 1 = some (shD (min 1 1) (max 1 1)) := by kernel_rfl
theorem agp_1_2 : agQ 1 2 = some (shD (min 1 2) (max 1 2)) := by kernel_rfl
theorem agp_1_3 : agQ 1 3 = some (shD (min 1 3) (max 1 3)) := by kernel_rfl
theorem agp_1_4 : agQ 1 4 = some (shD (min 1 4) (max 1 4)) := by kernel_rfl
theorem agp_1_5 : agQ 1 5 = some (shD (min 1 5) (max 1 5)) := by kernel_rfl
theorem agp_1_6 : agQ 1 6 = some (shD (min 1 6) (max 1 6)) := by kernel_rfl
theorem agp_1_7 : agQ 1 7 = some (shD (min 1 7) (max 1 7)) := by kernel_rfl
theorem agp_1_8 : agQ 1 8 = some (shD (min 1 8) (max 1 8)) := by kernel_rfl
theorem agp_1_9 : agQ 1 9 = some (shD (min 1 9) (max 1 9)) := by kernel_rfl
theorem agp_1_10 : agQ 1 10 = some (shD (min 1 10) (max 1 10)) := by kernel_rfl
theorem agp_1_11 : agQ 1 11 = some (shD (min 1 11) (max 1 11)) := by kernel_rfl
theorem agp_1_12 : agQ 1 12 = some (shD (min 1 12) (max 1 12)) := by kernel_rfl
theorem agp_1_13 : agQ 1 13 = some (shD (min 1 13) (max 1 13)) := by kernel_rfl
theorem agp_1_14 : agQ 1 14 = some (shD (min 1 14) (max 1 14)) := by kernel_rfl
theorem agp_1 (j : Nat) (h2 : j < 15) : agQ 1 j = some (shD (min 1 j) (max 1 j)) := by
  match j, h2 with
  | 0, _ => exact agp_1_0
  | 1, _ => exact agp_1_1
  | 2, _ => exact agp_1_2
  | 3, _ => exact agp_1_3
  | 4, _ => exact agp_1_4
  | 5, _ => exact agp_1_5
  | 6, _ => exact agp_1_6
  | 7, _ => exact agp_1_7
  | 8, _ => exact agp_1_8
  | 9, _ => exact agp_1_9
  | 10, _ => exact agp_1_10
  | 11, _ => exact agp_1_11
  | 12, _ => exact agp_1_12
  | 13, _ => exact agp_1_13
  | 14, _ => exact agp_1_14
  | n + 15, h => exact absurd h (by omega)
theorem agp_2_0 : agQ 2 0 = some (shD (min 2 0) (max 2 0)) := by kernel_rfl
theorem agp_2_1 : agQ 2 1 = some (shD (min 2 1) (max 2 1)) := by kernel_rfl
theorem agp_2_2 : agQ 2 2 = some (shD (min 2 2) (max 2 2)) := by kernel_rfl
theorem agp_2_3 : agQ 2 3 = some (shD (min 2 3) (max 2 3)) := by kernel_rfl
theorem agp_2_4 : agQ 2 4 = some (shD (min 2 4) (max 2 4)) := by kernel_rfl
theorem agp_2_5 : agQ 2 5 = some (shD (min 2 5) (max 2 5)) := by kernel_rfl
theorem agp_2_6 : agQ 2 6 = some (shD (min 2 6) (max 2 6)) := by kernel_rfl
theorem agp_2_7 : agQ 2 7 = some (shD (min 2 7) (max 2 7)) := by kernel_rfl
theorem agp_2_8 : agQ 2 8 = some (shD (min 2 8) (max 2 8)) := by kernel_rfl
theorem agp_2_9 : agQ 2 9 = some (shD (min 2 9) (max 2 9)) := by kernel_rfl
theorem agp_2_10 : agQ 2 10 = some (shD (min 2 10) (max 2 10)) := by kernel_rfl
theorem agp_2_11 : agQ 2 11 = some (shD (min 2 11) (max 2 11)) := by kernel_rfl
theorem agp_2_12 : agQ 2 12 = some (shD (min 2 12) (max 2 12)) := by kernel_rfl
theorem agp_2_13 : agQ 2 13 = some (shD (min 2 13) (max 2 13)) := by kernel_rfl
theorem agp_2_14 : agQ 2 14 = some (shD (min 2 14) (max 2 14)) := by kernel_rfl
theorem agp_2 (j : Nat) (h2 : j < 15) : agQ 2 j = some (shD (min 2 j) (max 2 j)) := by
  match j, h2 with
  | 0, _ => exact agp_2_0
  | 1, _ => exact agp_2_1
  | 2, _ => exact agp_2_2
  | 3, _ => exact agp_2_3
  | 4, _ => exact agp_2_4
  | 5, _ => exact agp_2_5
  | 6, _ => exact agp_2_6
  | 7, _ => exact agp_2_7
  | 8, _ => exact agp_2_8
  | 9, _ => exact agp_2_9
  | 10, _ => exact agp_2_10
  | 11, _ => exact agp_2_11
  | 12, _ => exact agp_2_12
  | 13, _ => exact agp_2_13
  | 14, _ => exact agp_2_14
  | n + 15, h => exact absurd h (by omega)
theorem agp_3_0 : agQ 3 0 = some (shD (min 3 0) (max 3 0)) := by kernel_rfl
theorem agp_3_1 : agQ 3 1 = some (shD (min 3 1) (max 3 1)) := by kernel_rfl
theorem agp_3_2 : agQ 3 2 = some (shD (min 3 2) (max 3 2)) := by kernel_rfl
theorem agp_3_3 : agQ 3 3 = some (shD (min 3 3) (max 3 3)) := by kernel_rfl
theorem agp_3_4 : agQ 3 4 = some (shD (min 3 4) (max 3 4)) := by kernel_rfl
theorem agp_3_5 : agQ 3 5 = some (shD (min 3 5) (max 3 5)) := by kernel_rfl
theorem agp_3_6 : agQ 3 6 = some (shD (min 3 6) (max 3 6)) := by kernel_rfl
theorem agp_3_7 : agQ 3 7 = some (shD (min 3 7) (max 3 7)) := by kernel_rfl
theorem agp_3_8 : agQ 3 8 = some (shD (min 3 8) (max 3 8)) := by kernel_rfl
theorem agp_3_9 : agQ 3 9 = some (shD (min 3 9) (max 3 9)) := by kernel_rfl
theorem agp_3_10 : agQ 3 10 = some (shD (min 3 10) (max 3 10)) := by kernel_rfl
theorem agp_3_11 : agQ 3 11 = some (shD (min 3 11) (max 3 11)) := by kernel_rfl
theorem agp_3_12 : agQ 3 12 = some (shD (min 3 12) (max 3 12)) := by kernel_rfl
theorem agp_3_13 : agQ 3 13 = some (shD (min 3 13) (max 3 13)) := by kernel_rfl
theorem agp_3_14 : agQ 3 14 = some (shD (min 3 14) (max 3 14)) := by kernel_rfl
theorem agp_3 (j : Nat) (h2 : j < 15) : agQ 3 j = some (shD (min 3 j) (max 3 j)) := by
  match j, h2 with
  | 0, _ => exact agp_3_0
  | 1, _ => exact agp_3_1
  | 2, _ => exact agp_3_2
  | 3, _ => exact agp_3_3
  | 4, _ => exact agp_3_4
  | 5, _ => exact agp_3_5
  | 6, _ => exact agp_3_6
  | 7, _ => exact agp_3_7
  | 8, _ => exact agp_3_8
  | 9, _ => exact agp_3_9
  | 10, _ => exact agp_3_10
  | 11, _ => exact agp_3_11
  | 12, _ => exact agp_3_12
  | 13, _ => exact agp_3_13
  | 14, _ => exact agp_3_14
  | n + 15, h => exact absurd h (by omega)
theorem agp_4_0 : agQ 4 0 = some (shD (min 4 0) (max 4 0)) := by kernel_rfl
theorem agp_4_1 : agQ 4 1 = some (shD (min 4 1) (max 4 1)) := by kernel_rfl
theorem agp_4_2 : agQ 4 2 = some (shD (min 4 2) (max 4 2)) := by kernel_rfl
theorem agp_4_3 : agQ 4 3 = some (shD (min 4 3) (max 4 3)) := by kernel_rfl
theorem agp_4_4 : agQ 4 4 = some (shD (min 4 4) (max 4 4)) := by kernel_rfl
theorem agp_4_5 : agQ 4 5 = some (shD (min 4 5) (max 4 5)) := by kernel_rfl
theorem agp_4_6 : agQ 4 6 = some (shD (min 4 6) (max 4 6)) := by kernel_rfl
theorem agp_4_7 : agQ 4 7 = some (shD (min 4 7) (max 4 7)) := by kernel_rfl
theorem agp_4_8 : agQ 4 8 = some (shD (min 4 8) (max 4 8)) := by kernel_rfl
theorem agp_4_9 : agQ 4 9 = some (shD (min 4 9) (max 4 9)) := by kernel_rfl
theorem agp_4_10 : agQ 4 10 = some (shD (min 4 10) (max 4 10)) := by kernel_rfl
theorem agp_4_11 : agQ 4 11 = some (shD (min 4 11) (max 4 11)) := by kernel_rfl
theorem agp_4_12 : agQ 4 12 = some (shD (min 4 12) (max 4 12)) := by kernel_rfl
theorem agp_4_13 : agQ 4 13 = some (shD (min 4 13) (max 4 13)) := by kernel_rfl
theorem agp_4_14 : agQ 4 14 = some (shD (min 4 14) (max 4 14)) := by kernel_rfl
theorem agp_4 (j : Nat) (h2 : j < 15) : agQ 4 j = some (shD (min 4 j) (max 4 j)) := by
  match j, h2 with
  | 0, _ => exact agp_4_0
  | 1, _ => exact agp_4_1
  | 2, _ => exact agp_4_2
  | 3, _ => exact agp_4_3
  | 4, _ => exact agp_4_4
  | 5, _ => exact agp_4_5
  | 6, _ => exact agp_4_6
  | 7, _ => exact agp_4_7
  | 8, _ => exact agp_4_8
  | 9, _ => exact agp_4_9
  | 10, _ => exact agp_4_10
  | 11, _ => exact agp_4_11
  | 12, _ => exact agp_4_12
  | 13, _ => exact agp_4_13
  | 14, _ => exact agp_4_14
  | n + 15, h => exact absurd h (by omega)
theorem agp_5_0 : agQ 5 0 = some (shD (min 5 0) (max 5 0)) := by kernel_rfl
theorem agp_5_1 : agQ 5 1 = some (shD (min 5 1) (max 5 1)) := by kernel_rfl
theorem agp_5_2 : agQ 5 2 = some (shD (min 5 2) (max 5 2)) := by kernel_rfl
theorem agp_5_3 : agQ 5 3 = some (shD (min 5 3) (max 5 3)) := by kernel_rfl
theorem agp_5_4 : agQ 5 4 = some (shD (min 5 4) (max 5 4)) := by kernel_rfl
theorem agp_5_5 : agQ 5 5 = some (shD (min 5 5) (max 5 5)) := by kernel_rfl
theorem agp_5_6 : agQ 5 6 = some (shD (min 5 6) (max 5 6)) := by kernel_rfl
theorem agp_5_7 : agQ 5 7 = some (shD (min 5 7) (max 5 7)) := by kernel_rfl
theorem agp_5_8 : agQ 5 8 = some (shD (min 5 8) (max 5 8)) := by kernel_rfl
theorem agp_5_9 : agQ 5 9 = some (shD (min 5 9) (max 5 9)) := by kernel_rfl
theorem agp_5_10 : agQ 5 10 = some (shD (min 5 10) (max 5 10)) := by kernel_rfl
theorem agp_5_11 : agQ 5 11 = some (shD (min 5 11) (max 5 11)) := by kernel_rfl
theorem agp_5_12 : agQ 5 12 = some (shD (min 5 12) (max 5 12)) := by kernel_rfl
theorem agp_5_13 : agQ 5 13 = some (shD (min 5 13) (max 5 13)) := by kernel_rfl
theorem agp_5_14 : agQ 5 14 = some (shD (min 5 14) (max 5 14)) := by kernel_rfl
theorem agp_5 (j : Nat) (h2 : j < 15) : agQ 5 j = some (shD (min 5 j) (max 5 j)) := by
  match j, h2 with
  | 0, _ => exact agp_5_0
  | 1, _ => exact agp_5_1
  | 2, _ => exact agp_5_2
  | 3, _ => exact agp_5_3
  | 4, _ => exact agp_5_4
  | 5, _ => exact agp_5_5
  | 6, _ => exact agp_5_6
  | 7, _ => exact agp_5_7
  | 8, _ => exact agp_5_8
  | 9, _ => exact agp_5_9
  | 10, _ => exact agp_5_10
  | 11, _ => exact agp_5_11
  | 12, _ => exact agp_5_12
  | 13, _ => exact agp_5_13
  | 14, _ => exact agp_5_14
  | n + 15, h => exact absurd h (by omega)
theorem agp_6_0 : agQ 6 0 = some (shD (min 6 0) (max 6 0)) := by kernel_rfl
theorem agp_6_1 : agQ 6 1 = some (shD (min 6 1) (max 6 1)) := by kernel_rfl
theorem agp_6_2 : agQ 6 2 = some (shD (min 6 2) (max 6 2)) := by kernel_rfl
theorem agp_6_3 : agQ 6 3 = some (shD (min 6 3) (max 6 3)) := by kernel_rfl
theorem agp_6_4 : agQ 6 4 = some (shD (min 6 4) (max 6 4)) := by kernel_rfl
theorem agp_6_5 : agQ 6 5 = some (shD (min 6 5) (max 6 5)) := by kernel_rfl
theorem agp_6_6 : agQ 6 6 = some (shD (min 6 6) (max 6 6)) := by kernel_rfl
theorem agp_6_7 : agQ 6 7 = some (shD (min 6 7) (max 6 7)) := by kernel_rfl
theorem agp_6_8 : agQ 6 8 = some (shD (min 6 8) (max 6 8)) := by kernel_rfl
theorem agp_6_9 : agQ 6 9 = some (shD (min 6 9) (max 6 9)) := by kernel_rfl
theorem agp_6_10 : agQ 6 10 = some (shD (min 6 10) (max 6 10)) := by kernel_rfl
theorem agp_6_11 : agQ 6 11 = some (shD (min 6 11) (max 6 11)) := by kernel_rfl
theorem agp_6_12 : agQ 6 12 = some (shD (min 6 12) (max 6 12)) := by kernel_rfl
theorem agp_6_13 : agQ 6 13 = some (shD (min 6 13) (max 6 13)) := by kernel_rfl
theorem agp_6_14 : agQ 6 14 = some (shD (min 6 14) (max 6 14)) := by kernel_rfl
theorem agp_6 (j : Nat) (h2 : j < 15) : agQ 6 j = some (shD (min 6 j) (max 6 j)) := by
  match j, h2 with
  | 0, _ => exact agp_6_0
  | 1, _ => exact agp_6_1
  | 2, _ => exact agp_6_2
  | 3, _ => exact agp_6_3
  | 4, _ => exact agp_6_4
  | 5, _ => exact agp_6_5
  | 6, _ => exact agp_6_6
  | 7, _ => exact agp_6_7
  | 8, _ => exact agp_6_8
  | 9, _ => exact agp_6_9
  | 10, _ => exact agp_6_10
  | 11, _ => exact agp_6_11
  | 12, _ => exact agp_6_12
  | 13, _ => exact agp_6_13
  | 14, _ => exact agp_6_14
  | n + 15, h => exact absurd h (by omega)
theorem agp_7_0 : agQ 7 0 = some (shD (min 7 0) (max 7 0)) := by kernel_rfl
theorem agp_7_1 : agQ 7 1 = some (shD (min 7 1) (max 7 1)) := by kernel_rfl
theorem agp_7_2 : agQ 7 2 = some (shD (min 7 2) (max 7 2)) := by kernel_rfl
theorem agp_7_3 : agQ 7 3 = some (shD (min 7 3) (max 7 3)) := by kernel_rfl
theorem agp_7_4 : agQ 7 4 = some (shD (min 7 4) (max 7 4)) := by kernel_rfl
theorem agp_7_5 : agQ 7 5 = some (shD (min 7 5) (max 7 5)) := by kernel_rfl
theorem agp_7_6 : agQ 7 6 = some (shD (min 7 6) (max 7 6)) := by kernel_rfl
theorem agp_7_7 : agQ 7 7 = some (shD (min 7 7) (max 7 7)) := by kernel_rfl
theorem agp_7_8 : agQ 7 8 = some (shD (min 7 8) (max 7 8)) := by kernel_rfl
theorem agp_7_9 : agQ 7 9 = some (shD (min 7 9) (max 7 9)) := by kernel_rfl
theorem agp_7_10 : agQ 7 10 = some (shD (min 7 10) (max 7 10)) := by kernel_rfl
theorem agp_7_11 : agQ 7 11 = some (shD (min 7 11) (max 7 11)) := by kernel_rfl
theorem agp_7_12 : agQ 7 12 = some (shD (min 7 12) (max 7 12)) := by kernel_rfl
theorem agp_7_13 : agQ 7 13 = some (shD (min 7 13) (max 7 13)) := by kernel_rfl
theorem agp_7_14 : agQ 7 14 = some (shD (min 7 14) (max 7 14)) := by kernel_rfl
theorem agp_7 (j : Nat) (h2 : j < 15) : agQ 7 j = some (shD (min 7 j) (max 7 j)) := by
  match j, h2 with
  | 0, _ => exact agp_7_0
  | 1, _ => exact agp_7_1
  | 2, _ => exact agp_7_2
  | 3, _ => exact agp_7_3
  | 4, _ => exact agp_7_4
  | 5, _ => exact agp_7_5
  | 6, _ => exact agp_7_6
  | 7, _ => exact agp_7_7
  | 8, _ => exact agp_7_8
  | 9, _ => exact agp_7_9
  | 10, _ => exact agp_7_10
  | 11, _ => exact agp_7_11
  | 12, _ => exact agp_7_12
  | 13, _ => exact agp_7_13
  | 14, _ => exact agp_7_14
  | n + 15, h => exact absurd h (by omega)
theorem agp_8_0 : agQ 8 0 = some (shD (min 8 0) (max 8 0)) := by kernel_rfl
theorem agp_8_1 : agQ 8 1 = some (shD (min 8 1) (max 8 1)) := by kernel_rfl
theorem agp_8_2 : agQ 8 2 = some (shD (min 8 2) (max 8 2)) := by kernel_rfl
theorem agp_8_3 : agQ 8 3 = some (shD (min 8 3) (max 8 3)) := by kernel_rfl
theorem agp_8_4 : agQ 8 4 = some (shD (min 8 4) (max 8 4)) := by kernel_rfl
theorem agp_8_5 : agQ 8 5 = some (shD (min 8 5) (max 8 5)) := by kernel_rfl
theorem agp_8_6 : agQ 8 6 = some (shD (min 8 6) (max 8 6)) := by kernel_rfl
theorem agp_8_7 : agQ 8 7 = some (shD (min 8 7) (max 8 7)) := by kernel_rfl
theorem agp_8_8 : agQ 8 8 = some (shD (min 8 8) (max 8 8)) := by kernel_rfl
theorem agp_8_9 : agQ 8 9 = some (shD (min 8 9) (max 8 9)) := by kernel_rfl
theorem agp_8_10 : agQ 8 10 = some (shD (min 8 10) (max 8 10)) := by kernel_rfl
theorem agp_8_11 : agQ 8 11 = some (shD (min 8 11) (max 8 11)) := by kernel_rfl
theorem agp_8_12 : agQ 8 12 = some (shD (min 8 12) (max 8 12)) := by kernel_rfl
theorem agp_8_13 : agQ 8 13 = some (shD (min 8 13) (max 8 13)) := by kernel_rfl
theorem agp_8_14 : agQ 8 14 = some (shD (min 8 14) (max 8 14)) := by kernel_rfl
theorem agp_8 (j : Nat) (h2 : j < 15) : agQ 8 j = some (shD (min 8 j) (max 8 j)) := by
  match j, h2 with
  | 0, _ => exact agp_8_0
  | 1, _ => exact agp_8_1
  | 2, _ => exact agp_8_2
  | 3, _ => exact agp_8_3
  | 4, _ => exact agp_8_4
  | 5, _ => exact agp_8_5
  | 6, _ => exact agp_8_6
  | 7, _ => exact agp_8_7
  | 8, _ => exact agp_8_8
  | 9, _ => exact agp_8_9
  | 10, _ => exact agp_8_10
  | 11, _ => exact agp_8_11
  | 12, _ => exact agp_8_12
  | 13, _ => exact agp_8_13
  | 14, _ => exact agp_8_14
  | n + 15, h => exact absurd h (by omega)
theorem agp_9_0 : agQ 9 0 = some (shD (min 9 0) (max 9 0)) := by kernel_rfl
theorem agp_9_1 : agQ 9 1 = some (shD (min 9 1) (max 9 1)) := by kernel_rfl
theorem agp_9_2 : agQ 9 2 = some (shD (min 9 2) (max 9 2)) := by kernel_rfl
theorem agp_9_3 : agQ 9 3 = some (shD (min 9 3) (max 9 3)) := by kernel_rfl
theorem agp_9_4 : agQ 9 4 = some (shD (min 9 4) (max 9 4)) := by kernel_rfl
theorem agp_9_5 : agQ 9 5 = some (shD (min 9 5) (max 9 5)) := by kernel_rfl
theorem agp_9_6 : agQ 9 6 = some (shD (min 9 6) (max 9 6)) := by kernel_rfl
theorem agp_9_7 : agQ 9 7 = some (shD (min 9 7) (max 9 7)) := by kernel_rfl
theorem agp_9_8 : agQ 9 8 = some (shD (min 9 8) (max 9 8)) := by kernel_rfl
theorem agp_9_9 : agQ 9 9 = some (shD (min 9 9) (max 9 9)) := by kernel_rfl
theorem agp_9_10 : agQ 9 10 = some (shD (min 9 10) (max 9 10)) := by kernel_rfl
theorem agp_9_11 : agQ 9 11 = some (shD (min 9 11) (max 9 11)) := by kernel_rfl
theorem agp_9_12 : agQ 9 12 = some (shD (min 9 12) (max 9 12)) := by kernel_rfl
theorem agp_9_13 : agQ 9 13 = some (shD (min 9 13) (max 9 13)) := by kernel_rfl
theorem agp_9_14 : agQ 9 14 = some (shD (min 9 14) (max 9 14)) := by kernel_rfl
theorem agp_9 (j : Nat) (h2 : j < 15) : agQ 9 j = some (shD (min 9 j) (max 9 j)) := by
  match j, h2 with
  | 0, _ => exact agp_9_0
  | 1, _ => exact agp_9_1
  | 2, _ => exact agp_9_2
  | 3, _ => exact agp_9_3
  | 4, _ => exact agp_9_4
  | 5, _ => exact agp_9_5
  | 6, _ => exact agp_9_6
  | 7, _ => exact agp_9_7
  | 8, _ => exact agp_9_8
  | 9, _ => exact agp_9_9
  | 10, _ => exact agp_9_10
  | 11, _ => exact agp_9_11
  | 12, _ => exact agp_9_12
  | 13, _ => exact agp_9_13
  | 14, _ => exact agp_9_14
  | n + 15, h => exact absurd h (by omega)
theorem agp_10_0 : agQ 10 0 = some (shD (min 10 0) (max 10 0)) := by kernel_rfl
theorem agp_10_1 : agQ 10 1 = some (shD (min 10 1) (max 10 1)) := by kernel_rfl
theorem agp_10_2 : agQ 10 2 = some (shD (min 10 2) (max 10 2)) := by kernel_rfl
theorem agp_10_3 : agQ 10 3 = some (shD (min 10 3) (max 10 3)) := by kernel_rfl
theorem agp_10_4 : agQ 10 4 = some (shD (min 10 4) (max 10 4)) := by kernel_rfl
theorem agp_10_5 : agQ 10 5 = some (shD (min 10 5) (max 10 5)) := by kernel_rfl
theorem agp_10_6 : agQ 10 6 = some (shD (min 10 6) (max 10 6)) := by kernel_rfl
theorem agp_10_7 : agQ 10 7 = some (shD (min 10 7) (max 10 7)) := by kernel_rfl
theorem agp_10_8 : agQ 10 8 = some (shD (min 10 8) (max 10 8)) := by kernel_rfl
theorem agp_10_9 : agQ 10 9 = some (shD (min 10 9) (max 10 9)) := by kernel_rfl
theorem agp_10_10 : agQ 10 10 = some (shD (min 10 10) (max 10 10)) := by kernel_rfl
theorem agp_10_11 : agQ 10 11 = some (shD (min 10 11) (max 10 11)) := by kernel_rfl
theorem agp_10_12 : agQ 10 12 = some (shD (min 10 12) (max 10 12)) := by kernel_rfl
theorem agp_10_13 : agQ 10 13 = some (shD (min 10 13) (max 10 13)) := by kernel_rfl
theorem agp_10_14 : agQ 10 14 = some (shD (min 10 14) (max 10 14)) := by kernel_rfl
theorem agp_10 (j : Nat) (h2 : j < 15) : agQ 10 j = some (shD (min 10 j) (max 10 j)) := by
  match j, h2 with
  | 0, _ => exact agp_10_0
  | 1, _ => exact agp_10_1
  | 2, _ => exact agp_10_2
  | 3, _ => exact agp_10_3
  | 4, _ => exact agp_10_4
  | 5, _ => exact agp_10_5
  | 6, _ => exact agp_10_6
  | 7, _ => exact agp_10_7
  | 8, _ => exact agp_10_8
  | 9, _ => exact agp_10_9
  | 10, _ => exact agp_10_10
  | 11, _ => exact agp_10_11
  | 12, _ => exact agp_10_12
  | 13, _ => exact agp_10_13
  | 14, _ => exact agp_10_14
  | n + 15, h => exact absurd h (by omega)
theorem agp_11_0 : agQ 11 0 = some (shD (min 11 0) (max 11 0)) := by kernel_rfl
theorem agp_11_1 : agQ 11 1 = some (shD (min 11 1) (max 11 1)) := by kernel_rfl
theorem agp_11_2 : agQ 11 2 = some (shD (min 11 2) (max 11 2)) := by kernel_rfl
theorem agp_11_3 : agQ 11 3 = some (shD (min 11 3) (max 11 3)) := by kernel_rfl
theorem agp_11_4 : agQ 11 4 = some (shD (min 11 4) (max 11 4)) := by kernel_rfl
theorem agp_11_5 : agQ 11 5 = some (shD (min 11 5) (max 11 5)) := by kernel_rfl
theorem agp_11_6 : agQ 11 6 = some (shD (min 11 6) (max 11 6)) := by kernel_rfl
theorem agp_11_7 : agQ 11 7 = some (shD (min 11 7) (max 11 7)) := by kernel_rfl
theorem agp_11_8 : agQ 11 8 = some (shD (min 11 8) (max 11 8)) := by kernel_rfl
theorem agp_11_9 : agQ 11 9 = some (shD (min 11 9) (max 11 9)) := by kernel_rfl
theorem agp_11_10 : agQ 11 10 = some (shD (min 11 10) (max 11 10)) := by kernel_rfl
theorem agp_11_11 : agQ 11 11 = some (shD (min 11 11) (max 11 11)) := by kernel_rfl
theorem agp_11_12 : agQ 11 12 = some (shD (min 11 12) (max 11 12)) := by kernel_rfl
theorem agp_11_13 : agQ 11 13 = some (shD (min 11 13) (max 11 13)) := by kernel_rfl
theorem agp_11_14 : agQ 11 14 = some (shD (min 11 14) (max 11 14)) := by kernel_rfl
theorem agp_11 (j : Nat) (h2 : j < 15) : agQ 11 j = some (shD (min 11 j) (max 11 j)) := by
  match j, h2 with
  | 0, _ => exact agp_11_0
  | 1, _ => exact agp_11_1
  | 2, _ => exact agp_11_2
  | 3, _ => exact agp_11_3
  | 4, _ => exact agp_11_4
  | 5, _ => exact agp_11_5
  | 6, _ => exact agp_11_6
  | 7, _ => exact agp_11_7
  | 8, _ => exact agp_11_8
  | 9, _ => exact agp_11_9
  | 10, _ => exact agp_11_10
  | 11, _ => exact agp_11_11
  | 12, _ => exact agp_11_12
  | 13, _ => exact agp_11_13
  | 14, _ => exact agp_11_14
  | n + 15, h => exact absurd h (by omega)
theorem agp_12_0 : agQ 12 0 = some (shD (min 12 0) (max 12 0)) := by kernel_rfl
theorem agp_12_1 : agQ 12 1 = some (shD (min 12 1) (max 12 1)) := by kernel_rfl
theorem agp_12_2 : agQ 12 2 = some (shD (min 12 2) (max 12 2)) := by kernel_rfl
theorem agp_12_3 : agQ 12 3 = some (shD (min 12 3) (max 12 3)) := by kernel_rfl
theorem agp_12_4 : agQ 12 4 = some (shD (min 12 4) (max 12 4)) := by kernel_rfl
theorem agp_12_5 : agQ 12 5 = some (shD (min 12 5) (max 12 5)) := by kernel_rfl
theorem agp_12_6 : agQ 12 6 = some (shD (min 12 6) (max 12 6)) := by kernel_rfl
theorem agp_12_7 : agQ 12 7 = some (shD (min 12 7) (max 12 7)) := by kernel_rfl
theorem agp_12_8 : agQ 12 8 = some (shD (min 12 8) (max 12 8)) := by kernel_rfl
theorem agp_12_9 : agQ 12 9 = some (shD (min 12 9) (max 12 9)) := by kernel_rfl
theorem agp_12_10 : agQ 12 10 = some (shD (min 12 10) (max 12 10)) := by kernel_rfl
theorem agp_12_11 : agQ 12 11 = some (shD (min 12 11) (max 12 11)) := by kernel_rfl
theorem agp_12_12 : agQ 12 12 = some (shD (min 12 12) (max 12 12)) := by kernel_rfl
theorem agp_12_13 : agQ 12 13 = some (shD (min 12 13) (max 12 13)) := by kernel_rfl
theorem agp_12_14 : agQ 12 14 = some (shD (min 12 14) (max 12 14)) := by kernel_rfl
theorem agp_12 (j : Nat) (h2 : j < 15) : agQ 12 j = some (shD (min 12 j) (max 12 j)) := by
  match j, h2 with
  | 0, _ => exact agp_12_0
  | 1, _ => exact agp_12_1
  | 2, _ => exact agp_12_2
  | 3, _ => exact agp_12_3
  | 4, _ => exact agp_12_4
  | 5, _ => exact agp_12_5
  | 6, _ => exact agp_12_6
  | 7, _ => exact agp_12_7
  | 8, _ => exact agp_12_8
  | 9, _ => exact agp_12_9
  | 10, _ => exact agp_12_10
  | 11, _ => exact agp_12_11
  | 12, _ => exact agp_12_12
  | 13, _ => exact agp_12_13
  | 14, _ => exact agp_12_14
  | n + 15, h => exact absurd h (by omega)
theorem agp_13_0 : agQ 13 0 = some (shD (min 13 0) (max 13 0)) := by kernel_rfl
theorem agp_13_1 : agQ 13 1 = some (shD (min 13 1) (max 13 1)) := by kernel_rfl
theorem agp_13_2 : agQ 13 2 = some (shD (min 13 2) (max 13 2)) := by kernel_rfl
theorem agp_13_3 : agQ 13 3 = some (shD (min 13 3) (max 13 3)) := by kernel_rfl
theorem agp_13_4 : agQ 13 4 = some (shD (min 13 4) (max 13 4)) := by kernel_rfl
theorem agp_13_5 : agQ 13 5 = some (shD (min 13 5) (max 13 5)) := by kernel_rfl
theorem agp_13_6 : agQ 13 6 = some (shD (min 13 6) (max 13 6)) := by kernel_rfl
theorem agp_13_7 : agQ 13 7 = some (shD (min 13 7) (max 13 7)) := by kernel_rfl
theorem agp_13_8 : agQ 13 8 = some (shD (min 13 8) (max 13 8)) := by kernel_rfl
theorem agp_13_9 : agQ 13 9 = some (shD (min 13 9) (max 13 9)) := by kernel_rfl
theorem agp_13_10 : agQ 13 10 = some (shD (min 13 10) (max 13 10)) := by kernel_rfl
theorem agp_13_11 : agQ 13 11 = some (shD (min 13 11) (max 13 11)) := by kernel_rfl
theorem agp_13_12 : agQ 13 12 = some (shD (min 13 12) (max 13 12)) := by kernel_rfl
theorem agp_13_13 : agQ 13 13 = some (shD (min 13 13) (max 13 13)) := by kernel_rfl
theorem agp_13_14 : agQ 13 14 = some (shD (min 13 14) (max 13 14)) := by kernel_rfl
theorem agp_13 (j : Nat) (h2 : j < 15) : agQ 13 j = some (shD (min 13 j) (max 13 j)) := by
  match j, h2 with
  | 0, _ => exact agp_13_0
  | 1, _ => exact agp_13_1
  | 2, _ => exact agp_13_2
  | 3, _ => exact agp_13_3
  | 4, _ => exact agp_13_4
  | 5, _ => exact agp_13_5
  | 6, _ => exact agp_13_6
  | 7, _ => exact agp_13_7
  | 8, _ => exact agp_13_8
  | 9, _ => exact agp_13_9
  | 10, _ => exact agp_13_10
  | 11, _ => exact agp_13_11
  | 12, _ => exact agp_13_12
  | 13, _ => exact agp_13_13
  | 14, _ => exact agp_13_14
  | n + 15, h => exact absurd h (by omega)
theorem agp_14_0 : agQ 14 0 = some (shD (min 14 0) (max 14 0)) := by kernel_rfl
theorem agp_14_1 : agQ 14 1 = some (shD (min 14 1) (max 14 1)) := by kernel_rfl
theorem agp_14_2 : agQ 14 2 = some (shD (min 14 2) (max 14 2)) := by kernel_rfl
theorem agp_14_3 : agQ 14 3 = some (shD (min 14 3) (max 14 3)) := by kernel_rfl
theorem agp_14_4 : agQ 14 4 = some (shD (min 14 4) (max 14 4)) := by kernel_rfl
theorem agp_14_5 : agQ 14 5 = some (shD (min 14 5) (max 14 5)) := by kernel_rfl
theorem agp_14_6 : agQ 14 6 = some (shD (min 14 6) (max 14 6)) := by kernel_rfl
theorem agp_14_7 : agQ 14 7 = some (shD (min 14 7) (max 14 7)) := by kernel_rfl
theorem agp_14_8 : agQ 14 8 = some (shD (min 14 8) (max 14 8)) := by kernel_rfl
theorem agp_14_9 : agQ 14 9 = some (shD (min 14 9) (max 14 9)) := by kernel_rfl
theorem agp_14_10 : agQ 14 10 = some (shD (min 14 10) (max 14 10)) := by kernel_rfl
theorem agp_14_11 : agQ 14 11 = some (shD (min 14 11) (max 14 11)) := by kernel_rfl
theorem agp_14_12 : agQ 14 12 = some (shD (min 14 12) (max 14 12)) := by kernel_rfl
theorem agp_14_13 : agQ 14 13 = some (shD (min 14 13) (max 14 13)) := by kernel_rfl
theorem agp_14_14 : agQ 14 14 = some (shD (min 14 14) (max 14 14)) := by kernel_rfl
theorem agp_14 (j : Nat) (h2 : j < 15) : agQ 14 j = some (shD (min 14 j) (max 14 j)) := by
  match j, h2 with
  | 0, _ => exact agp_14_0
  | 1, _ => exact agp_14_1
  | 2, _ => exact agp_14_2
  | 3, _ => exact agp_14_3
  | 4, _ => exact agp_14_4
  | 5, _ => exact agp_14_5
  | 6, _ => exact agp_14_6
  | 7, _ => exact agp_14_7
  | 8, _ => exact agp_14_8
  | 9, _ => exact agp_14_9
  | 10, _ => exact agp_14_10
  | 11, _ => exact agp_14_11
  | 12, _ => exact agp_14_12
  | 13, _ => exact agp_14_13
  | 14, _ => exact agp_14_14
  | n + 15, h => exact absurd h (by omega)
theorem agp_all (i j : Nat) (h : i < 15) (h2 : j < 15) : agQ i j = some (shD (min i j) (max i j)) := by
  match i, h with
  | 0, _ => exact agp_0 j h2
  | 1, _ => exact agp_1 j h2
  | 2, _ => exact agp_2 j h2
  | 3, _ => exact agp_3 j h2
  | 4, _ => exact agp_4 j h2
  | 5, _ => exact agp_5 j h2
  | 6, _ => exact agp_6 j h2
  | 7, _ => exact agp_7 j h2
  | 8, _ => exact agp_8 j h2
  | 9, _ => exact agp_9 j h2
  | 10, _ => exact agp_10 j h2
  | 11, _ => exact agp_11 j h2
  | 12, _ => exact agp_12 j h2
  | 13, _ => exact agp_13 j h2
  | 14, _ => exact agp_14 j h2
  | n + 15, h => exact absurd h (by omega)
end Go.Proofs.YtajpblfinenmjaaDoor.Pl

/- Plain: names, pair by pair. -/
namespace Go.Proofs.YtajpblfinenmjaaDoor.Pl
open Go
theorem age_0_0 : ref26_EqualR 18446744073709551616 18446744073709551616 (nmD 0) (nmD 0) = some ((Nat.beq 0 0, ()), ()) := by kernel_rfl
theorem age_0_1 : ref26_EqualR 18446744073709551616 18446744073709551616 (nmD 0) (nmD 1) = some ((Nat.beq 0 1, ()), ()) := by kernel_rfl
theorem age_0_2 : ref26_EqualR 18446744073709551616 18446744073709551616 (nmD 0) (nmD 2) = some ((Nat.beq 0 2, ()), ()) := by kernel_rfl
theorem age_0_3 : ref26_EqualR 18446744073709551616 18446744073709551616 (nmD 0) (nmD 3) = some ((Nat.beq 0 3, ()), ()) := by kernel_rfl
theorem age_0_4 : ref26_EqualR 18446744073709551616 18446744073709551616 (nmD 0) (nmD 4) = some ((Nat.beq 0 4, ()), ()) := by kernel_rfl
theorem age_0_5 : ref26_EqualR 18446744073709551616 18446744073709551616 (nmD 0) (nmD 5) = some ((Nat.beq 0 5, ()), ()) := by kernel_rfl
theorem age_0_6 : ref26_EqualR 18446744073709551616 18446744073709551616 (nmD 0) (nmD 6) = some ((Nat.beq 0 6, ()), ()) := by kernel_rfl
theorem age_0_7 : ref26_EqualR 18446744073709551616 18446744073709551616 (nmD 0) (nmD 7) = some ((Nat.beq 0 7, ()), ()) := by kernel_rfl
theorem age_0_8 : ref26_EqualR 18446744073709551616 18446744073709551616 (nmD 0) (nmD 8) = some ((Nat.beq 0 8, ()), ()) := by kernel_rfl
theorem age_0_9 : ref26_EqualR 18446744073709551616 18446744073709551616 (nmD 0) (nmD 9) = some ((Nat.beq 0 9, ()), ()) := by kernel_rfl
theorem age_0_10 : ref26_EqualR 18446744073709551616 18446744073709551616 (nmD 0) (nmD 10) = some ((Nat.beq 0 10, ()), ()) := by kernel_rfl
theorem age_0_11 : ref26_EqualR 18446744073709551616 18446744073709551616 (nmD 0) (nmD 11) = some ((Nat.beq 0 11, ()), ()) := by kernel_rfl
theorem age_0_12 : ref26_EqualR 18446744073709551616 18446744073709551616 (nmD 0) (nmD 12) = some ((Nat.beq 0 12, ()), ()) := by kernel_rfl
theorem age_0_13 : ref26_EqualR 18446744073709551616 18446744073709551616 (nmD 0) (nmD 13) = some ((Nat.beq 0 13, ()), ()) := by kernel_rfl
theorem age_0_14 : ref26_EqualR 18446744073709551616 18446744073709551616 (nmD 0) (nmD 14) = some ((Nat.beq 0 14, ()), ()) := by kernel_rfl
theorem age_0 (j : Nat) (h2 : j < 15) : ref26_EqualR 18446744073709551616 18446744073709551616 (nmD 0) (nmD j) = some ((Nat.beq 0 j, ()), ()) := by
  match j, h2 with
  | 0, _ => exact age_0_0
  | 1, _ => exact age_0_1
  | 2, _ => exact age_0_2
  | 3, _ => exact age_0_3
  | 4, _ => exact age_0_4
  | 5, _ => exact age_0_5
  | 6, _ => exact age_0_6
  | 7, _ => exact age_0_7
  | 8, _ => exact age_0_8
  | 9, _ => exact age_0_9
  | 10, _ => exact age_0_10
  | 11, _ => exact age_0_11
  | 12, _ => exact age_0_12
  | 13, _ => exact age_0_13
  | 14, _ => exact age_0_14
  | n + 15, h => exact absurd h (by omega)
theorem age_1_0 : ref26_EqualR 18446744073709551616 18446744073709551616 (nmD 1) (nmD 0) = some ((Nat.beq 1 0, ()), ()) := by kernel_rfl
theorem age_1_1 : ref26_EqualR 18446744073709551616 18446744073709551616 (nmD 1) (nmD 1) = some ((Nat.beq 1 1, ()), ()) := by kernel_rfl
theorem age_1_2 : ref26_EqualR 18446744073709551616 18446744073709551616 (nmD 1) (nmD 2) = some ((Nat.beq 1 2, ()), ()) := by kernel_rfl
theorem age_1_3 : ref26_EqualR 18446744073709551616 18446744073709551616 (nmD 1) (nmD 3) = some ((Nat.beq 1 3, ()), ()) := by kernel_rfl
theorem age_1_4 : ref26_EqualR 18446744073709551616 18446744073709551616 (nmD 1) (nmD 4) = some ((Nat.beq 1 4, ()), ()) := by kernel_rfl
theorem age_1_5 : ref26_EqualR 18446744073709551616 18446744073709551616 (nmD 1) (nmD 5) = some ((Nat.beq 1 5, ()), ()) := by kernel_rfl
theorem age_1_6 : ref26_EqualR 18446744073709551616 18446744073709551616 (nmD 1) (nmD 6) = some ((Nat.beq 1 6, ()), ()) := by kernel_rfl
theorem age_1_7 : ref26_EqualR 18446744073709551616 18446744073709551616 (nmD 1) (nmD 7) = some ((Nat.beq 1 7, ()), ()) := by kernel_rfl
theorem age_1_8 : ref26_EqualR 18446744073709551616 18446744073709551616 (nmD 1) (nmD 8) = some ((Nat.beq 1 8, ()), ()) := by kernel_rfl
theorem age_1_9 : ref26_EqualR 18446744073709551616 18446744073709551616 (nmD 1) (nmD 9) = some ((Nat.beq 1 9, ()), ()) := by kernel_rfl
theorem age_1_10 : ref26_EqualR 18446744073709551616 18446744073709551616 (nmD 1) (nmD 10) = some ((Nat.beq 1 10, ()), ()) := by kernel_rfl
theorem age_1_11 : ref26_EqualR 18446744073709551616 18446744073709551616 (nmD 1) (nmD 11) = some ((Nat.beq 1 11, ()), ()) := by kernel_rfl
theorem age_1_12 : ref26_EqualR 18446744073709551616 18446744073709551616 (nmD 1) (nmD 12) = some ((Nat.beq 1 12, ()), ()) := by kernel_rfl
theorem age_1_13 : ref26_EqualR 18446744073709551616 18446744073709551616 (nmD 1) (nmD 13) = some ((Nat.beq 1 13, ()), ()) := by kernel_rfl
theorem age_1_14 : ref26_EqualR 18446744073709551616 18446744073709551616 (nmD 1) (nmD 14) = some ((Nat.beq 1 14, ()), ()) := by kernel_rfl
theorem age_1 (j : Nat) (h2 : j < 15) : ref26_EqualR 18446744073709551616 18446744073709551616 (nmD 1) (nmD j) = some ((Nat.beq 1 j, ()), ()) := by
  match j, h2 with
  | 0, _ => exact age_1_0
  | 1, _ => exact age_1_1
  | 2, _ => exact age_1_2
  | 3, _ => exact age_1_3
  | 4, _ => exact age_1_4
  | 5, _ => exact age_1_5
  | 6, _ => exact age_1_6
  | 7, _ => exact age_1_7
  | 8, _ => exact age_1_8
  | 9, _ => exact age_1_9
  | 10, _ => exact age_1_10
  | 11, _ => exact age_1_11
  | 12, _ => exact age_1_12
  | 13, _ => exact age_1_13
  | 14, _ => exact age_1_14
  | n + 15, h => exact absurd h (by omega)
theorem age_2_0 : ref26_EqualR 18446744073709551616 18446744073709551616 (nmD 2) (nmD 0) = some ((Nat.beq 2 0, ()), ()) := by kernel_rfl
theorem age_2_1 : ref26_EqualR 18446744073709551616 18446744073709551616 (nmD 2) (nmD 1) = some ((Nat.beq 2 1, ()), ()) := by kernel_rfl
theorem age_2_2 : ref26_EqualR 18446744073709551616 18446744073709551616 (nmD 2) (nmD 2) = some ((Nat.beq 2 2, ()), ()) := by kernel_rfl
theorem age_2_3 : ref26_EqualR 18446744073709551616 18446744073709551616 (nmD 2) (nmD 3) = some ((Nat.beq 2 3, ()), ()) := by kernel_rfl
theorem age_2_4 : ref26_EqualR 18446744073709551616 18446744073709551616 (nmD 2) (nmD 4) = some ((Nat.beq 2 4, ()), ()) := by kernel_rfl
theorem age_2_5 : ref26_EqualR 18446744073709551616 18446744073709551616 (nmD 2) (nmD 5) = some ((Nat.beq 2 5, ()), ()) := by kernel_rfl
theorem age_2_6 : ref26_EqualR 18446744073709551616 18446744073709551616 (nmD 2) (nmD 6) = some ((Nat.beq 2 6, ()), ()) := by kernel_rfl
theorem age_2_7 : ref26_EqualR 18446744073709551616 18446744073709551616 (nmD 2) (nmD 7) = some ((Nat.beq 2 7, ()), ()) := by kernel_rfl
theorem age_2_8 : ref26_EqualR 18446744073709551616 18446744073709551616 (nmD 2) (nmD 8) = some ((Nat.beq 2 8, ()), ()) := by kernel_rfl
theorem age_2_9 : ref26_EqualR 18446744073709551616 18446744073709551616 (nmD 2) (nmD 9) = some ((Nat.beq 2 9, ()), ()) := by kernel_rfl
theorem age_2_10 : ref26_EqualR 18446744073709551616 18446744073709551616 (nmD 2) (nmD 10) = some ((Nat.beq 2 10, ()), ()) := by kernel_rfl
theorem age_2_11 : ref26_EqualR 18446744073709551616 18446744073709551616 (nmD 2) (nmD 11) = some ((Nat.beq 2 11, ()), ()) := by kernel_rfl
theorem age_2_12 : ref26_EqualR 18446744073709551616 18446744073709551616 (nmD 2) (nmD 12) = some ((Nat.beq 2 12, ()), ()) := by kernel_rfl
theorem age_2_13 : ref26_EqualR 18446744073709551616 18446744073709551616 (nmD 2) (nmD 13) = some ((Nat.beq 2 13, ()), ()) := by kernel_rfl
theorem age_2_14 : ref26_EqualR 18446744073709551616 18446744073709551616 (nmD 2) (nmD 14) = some ((Nat.beq 2 14, ()), ()) := by kernel_rfl
theorem age_2 (j : Nat) (h2 : j < 15) : ref26_EqualR 18446744073709551616 18446744073709551616 (nmD 2) (nmD j) = some ((Nat.beq 2 j, ()), ()) := by
  match j, h2 with
  | 0, _ => exact age_2_0
  | 1, _ => exact age_2_1
  | 2, _ => exact age_2_2
  | 3, _ => exact age_2_3
  | 4, _ => exact age_2_4
  | 5, _ => exact age_2_5
  | 6, _ => exact age_2_6
  | 7, _ => exact age_2_7
  | 8, _ => exact age_2_8
  | 9, _ => exact age_2_9
  | 10, _ => exact age_2_10
  | 11, _ => exact age_2_11
  | 12, _ => exact age_2_12
  | 13, _ => exact age_2_13
  | 14, _ => exact age_2_14
  | n + 15, h => exact absurd h (by omega)
theorem age_3_0 : ref26_EqualR 18446744073709551616 18446744073709551616 (nmD 3) (nmD 0) = some ((Nat.beq 3 0, ()), ()) := by kernel_rfl
theorem age_3_1 : ref26_EqualR 18446744073709551616 18446744073709551616 (nmD 3) (nmD 1) = some ((Nat.beq 3 1, ()), ()) := by kernel_rfl
theorem age_3_2 : ref26_EqualR 18446744073709551616 18446744073709551616 (nmD 3) (nmD 2) = some ((Nat.beq 3 2, ()), ()) := by kernel_rfl
theorem age_3_3 : ref26_EqualR 18446744073709551616 18446744073709551616 (nmD 3) (nmD 3) = some ((Nat.beq 3 3, ()), ()) := by kernel_rfl
theorem age_3_4 : ref26_EqualR 18446744073709551616 18446744073709551616 (nmD 3) (nmD 4) = some ((Nat.beq 3 4, ()), ()) := by kernel_rfl
theorem age_3_5 : ref26_EqualR 18446744073709551616 18446744073709551616 (nmD 3) (nmD 5) = some ((Nat.beq 3 5, ()), ()) := by kernel_rfl
theorem age_3_6 : ref26_EqualR 18446744073709551616 18446744073709551616 (nmD 3) (nmD 6) = some ((Nat.beq 3 6, ()), ()) := by kernel_rfl
theorem age_3_7 : ref26_EqualR 18446744073709551616 18446744073709551616 (nmD 3) (nmD 7) = some ((Nat.beq 3 7, ()), ()) := by kernel_rfl
theorem age_3_8 : ref26_EqualR 18446744073709551616 18446744073709551616 (nmD 3) (nmD 8) = some ((Nat.beq 3 8, ()), ()) := by kernel_rfl
theorem age_3_9 : ref26_EqualR 18446744073709551616 18446744073709551616 (nmD 3) (nmD 9) = some ((Nat.beq 3 9, ()), ()) := by kernel_rfl
theorem age_3_10 : ref26_EqualR 18446744073709551616 18446744073709551616 (nmD 3) (nmD 10) = some ((Nat.beq 3 10, ()), ()) := by kernel_rfl
theorem age_3_11 : ref26_EqualR 18446744073709551616 18446744073709551616 (nmD 3) (nmD 11) = some ((Nat.beq 3 11, ()), ()) := by kernel_rfl
theorem age_3_12 : ref26_EqualR 18446744073709551616 18446744073709551616 (nmD 3) (nmD 12) = some ((Nat.beq 3 12, ()), ()) := by kernel_rfl
theorem age_3_13 : ref26_EqualR 18446744073709551616 18446744073709551616 (nmD 3) (nmD 13) = some ((Nat.beq 3 13, ()), ()) := by kernel_rfl
theorem age_3_14 : ref26_EqualR 18446744073709551616 18446744073709551616 (nmD 3) (nmD 14) = some ((Nat.beq 3 14, ()), ()) := by kernel_rfl
theorem age_3 (j : Nat) (h2 : j < 15) : ref26_EqualR 18446744073709551616 18446744073709551616 (nmD 3) (nmD j) = some ((Nat.beq 3 j, ()), ()) := by
  match j, h2 with
  | 0, _ => exact age_3_0
  | 1, _ => exact age_3_1
  | 2, _ => exact age_3_2
  | 3, _ => exact age_3_3
  | 4, _ => exact age_3_4
  | 5, _ => exact age_3_5
  | 6, _ => exact age_3_6
  | 7, _ => exact age_3_7
  | 8, _ => exact age_3_8
  | 9, _ => exact age_3_9
  | 10, _ => exact age_3_10
  | 11, _ => exact age_3_11
  | 12, _ => exact age_3_12
  | 13, _ => exact age_3_13
  | 14, _ => exact age_3_14
  | n + 15, h => exact absurd h (by omega)
theorem age_4_0 : ref26_EqualR 18446744073709551616 18446744073709551616 (nmD 4) (nmD 0) = some ((Nat.beq 4 0, ()), ()) := by kernel_rfl
theorem age_4_1 : ref26_EqualR 18446744073709551616 18446744073709551616 (nmD 4) (nmD 1) = some ((Nat.beq 4 1, ()), ()) := by kernel_rfl
theorem age_4_2 : ref26_EqualR 18446744073709551616 18446744073709551616 (nmD 4) (nmD 2) = some ((Nat.beq 4 2, ()), ()) := by kernel_rfl
theorem age_4_3 : ref26_EqualR 18446744073709551616 18446744073709551616 (nmD 4) (nmD 3) = some ((Nat.beq 4 3, ()), ()) := by kernel_rfl
theorem age_4_4 : ref26_EqualR 18446744073709551616 18446744073709551616 (nmD 4) (nmD 4) = some ((Nat.beq 4 4, ()), ()) := by kernel_rfl
theorem age_4_5 : ref26_EqualR 18446744073709551616 18446744073709551616 (nmD 4) (nmD 5) = some ((Nat.beq 4 5, ()), ()) := by kernel_rfl
theorem age_4_6 : ref26_EqualR 18446744073709551616 18446744073709551616 (nmD 4) (nmD 6) = some ((Nat.beq 4 6, ()), ()) := by kernel_rfl
theorem age_4_7 : ref26_EqualR 18446744073709551616 18446744073709551616 (nmD 4) (nmD 7) = some ((Nat.beq 4 7, ()), ()) := by kernel_rfl
theorem age_4_8 : ref26_EqualR 18446744073709551616 18446744073709551616 (nmD 4) (nmD 8) = some ((Nat.beq 4 8, ()), ()) := by kernel_rfl
theorem age_4_9 : ref26_EqualR 18446744073709551616 18446744073709551616 (nmD 4) (nmD 9) = some ((Nat.beq 4 9, ()), ()) := by kernel_rfl
theorem age_4_10 : ref26_EqualR 18446744073709551616 18446744073709551616 (nmD 4) (nmD 10) = some ((Nat.beq 4 10, ()), ()) := by kernel_rfl
theorem age_4_11 : ref26_EqualR 18446744073709551616 18446744073709551616 (nmD 4) (nmD 11) = some ((Nat.beq 4 11, ()), ()) := by kernel_rfl
theorem age_4_12 : ref26_EqualR 18446744073709551616 18446744073709551616 (nmD 4) (nmD 12) = some ((Nat.beq 4 12, ()), ()) := by kernel_rfl
theorem age_4_13 : ref26_EqualR 18446744073709551616 18446744073709551616 (nmD 4) (nmD 13) = some ((Nat.beq 4 13, ()), ()) := by kernel_rfl
theorem age_4_14 : ref26_EqualR 18446744073709551616 18446744073709551616 (nmD 4) (nmD 14) = some ((Nat.beq 4 14, ()), ()) := by kernel_rfl
theorem age_4 (j : Nat) (h2 : j < 15) : ref26_EqualR 18446744073709551616 18446744073709551616 (nmD 4) (nmD j) = some ((Nat.beq 4 j, ()), ()) := by
  match j, h2 with
  | 0, _ => exact age_4_0
  | 1, _ => exact age_4_1
  | 2, _ => exact age_4_2
  | 3, _ => exact age_4_3
  | 4, _ => exact age_4_4
  | 5, _ => exact age_4_5
  | 6, _ => exact age_4_6
  | 7, _ => exact age_4_7
  | 8, _ => exact age_4_8
  | 9, _ => exact age_4_9
  | 10, _ => exact age_4_10
  | 11, _ => exact age_4_11
  | 12, _ => exact age_4_12
  | 13, _ => exact age_4_13
  | 14, _ => exact age_4_14
  | n + 15, h => exact absurd h (by omega)
theorem age_5_0 : ref26_EqualR 18446744073709551616 18446744073709551616 (nmD 5) (nmD 0) = some ((Nat.beq 5 0, ()), ()) := by kernel_rfl
theorem age_5_1 : ref26_EqualR 18446744073709551616 18446744073709551616 (nmD 5) (nmD 1) = some ((Nat.beq 5 1, ()), ()) := by kernel_rfl
theorem age_5_2 : ref26_EqualR 18446744073709551616 18446744073709551616 (nmD 5) (nmD 2) = some ((Nat.beq 5 2, ()), ()) := by kernel_rfl
theorem age_5_3 : ref26_EqualR 18446744073709551616 18446744073709551616 (nmD 5) (nmD 3) = some ((Nat.beq 5 3, ()), ()) := by kernel_rfl
theorem age_5_4 : ref26_EqualR 18446744073709551616 18446744073709551616 (nmD 5) (nmD 4) = some ((Nat.beq 5 4, ()), ()) := by kernel_rfl
theorem age_5_5 : ref26_EqualR 18446744073709551616 18446744073709551616 (nmD 5) (nmD 5) = some ((Nat.beq 5 5, ()), ()) := by kernel_rfl
theorem age_5_6 : ref26_EqualR 18446744073709551616 18446744073709551616 (nmD 5) (nmD 6) = some ((Nat.beq 5 6, ()), ()) := by kernel_rfl
theorem age_5_7 : ref26_EqualR 18446744073709551616 18446744073709551616 (nmD 5) (nmD 7) = some ((Nat.beq 5 7, ()), ()) := by kernel_rfl
theorem age_5_8 : ref26_EqualR 18446744073709551616 18446744073709551616 (nmD 5) (nmD 8) = some ((Nat.beq 5 8, ()), ()) := by kernel_rfl
theorem age_5_9 : ref26_EqualR 18446744073709551616 18446744073709551616 (nmD 5) (nmD 9) = some ((Nat.beq 5 9, ()), ()) := by kernel_rfl
theorem age_5_10 : ref26_EqualR 18446744073709551616 18446744073709551616 (nmD 5) (nmD 10) = some ((Nat.beq 5 10, ()), ()) := by kernel_rfl
theorem age_5_11 : ref26_EqualR 18446744073709551616 18446744073709551616 (nmD 5) (nmD 11) = some ((Nat.beq 5 11, ()), ()) := by kernel_rfl
theorem age_5_12 : ref26_EqualR 18446744073709551616 18446744073709551616 (nmD 5) (nmD 12) = some ((Nat.beq 5 12, ()), ()) := by kernel_rfl
theorem age_5_13 : ref26_EqualR 18446744073709551616 18446744073709551616 (nmD 5) (nmD 13) = some ((Nat.beq 5 13, ()), ()) := by kernel_rfl
theorem age_5_14 : ref26_EqualR 18446744073709551616 18446744073709551616 (nmD 5) (nmD 14) = some ((Nat.beq 5 14, ()), ()) := by kernel_rfl
theorem age_5 (j : Nat) (h2 : j < 15) : ref26_EqualR 18446744073709551616 18446744073709551616 (nmD 5) (nmD j) = some ((Nat.beq 5 j, ()), ()) := by
  match j, h2 with
  | 0, _ => exact age_5_0
  | 1, _ => exact age_5_1
  | 2, _ => exact age_5_2
  | 3, _ => exact age_5_3
  | 4, _ => exact age_5_4
  | 5, _ => exact age_5_5
  | 6, _ => exact age_5_6
  | 7, _ => exact age_5_7
  | 8, _ => exact age_5_8
  | 9, _ => exact age_5_9
  | 10, _ => exact age_5_10
  | 11, _ => exact age_5_11
  | 12, _ => exact age_5_12
  | 13, _ => exact age_5_13
  | 14, _ => exact age_5_14
  | n + 15, h => exact absurd h (by omega)
theorem age_6_0 : ref26_EqualR 18446744073709551616 18446744073709551616 (nmD 6) (nmD 0) = some ((Nat.beq 6 0, ()), ()) := by kernel_rfl
theorem age_6_1 : ref26_EqualR 18446744073709551616 18446744073709551616 (nmD 6) (nmD 1) = some ((Nat.beq 6 1, ()), ()) := by kernel_rfl
theorem age_6_2 : ref26_EqualR 18446744073709551616 18446744073709551616 (nmD 6) (nmD 2) = some ((Nat.beq 6 2, ()), ()) := by kernel_rfl
theorem age_6_3 : ref26_EqualR 18446744073709551616 18446744073709551616 (nmD 6) (nmD 3) = some ((Nat.beq 6 3, ()), ()) := by kernel_rfl
theorem age_6_4 : ref26_EqualR 18446744073709551616 18446744073709551616 (nmD 6) (nmD 4) = some ((Nat.beq 6 4, ()), ()) := by kernel_rfl
theorem age_6_5 : ref26_EqualR 18446744073709551616 18446744073709551616 (nmD 6) (nmD 5) = some ((Nat.beq 6 5, ()), ()) := by kernel_rfl
theorem age_6_6 : ref26_EqualR 18446744073709551616 18446744073709551616 (nmD 6) (nmD 6) = some ((Nat.beq 6 6, ()), ()) := by kernel_rfl
theorem age_6_7 : ref26_EqualR 18446744073709551616 18446744073709551616 (nmD 6) (nmD 7) = some ((Nat.beq 6 7, ()), ()) := by kernel_rfl
theorem age_6_8 : ref26_EqualR 18446744073709551616 18446744073709551616 (nmD 6) (nmD 8) = some ((Nat.beq 6 8, ()), ()) := by kernel_rfl
theorem age_6_9 : ref26_EqualR 18446744073709551616 18446744073709551616 (nmD 6) (nmD 9) = some ((Nat.beq 6 9, ()), ()) := by kernel_rfl
theorem age_6_10 : ref26_EqualR 18446744073709551616 18446744073709551616 (nmD 6) (nmD 10) = some ((Nat.beq 6 10, ()), ()) := by kernel_rfl
theorem age_6_11 : ref26_EqualR 18446744073709551616 18446744073709551616 (nmD 6) (nmD 11) = some ((Nat.beq 6 11, ()), ()) := by kernel_rfl
theorem age_6_12 : ref26_EqualR 18446744073709551616 18446744073709551616 (nmD 6) (nmD 12) = some ((Nat.beq 6 12, ()), ()) := by kernel_rfl
theorem age_6_13 : ref26_EqualR 18446744073709551616 18446744073709551616 (nmD 6) (nmD 13) = some ((Nat.beq 6 13, ()), ()) := by kernel_rfl
theorem age_6_14 : ref26_EqualR 18446744073709551616 18446744073709551616 (nmD 6) (nmD 14) = some ((Nat.beq 6 14, ()), ()) := by kernel_rfl
theorem age_6 (j : Nat) (h2 : j < 15) : ref26_EqualR 18446744073709551616 18446744073709551616 (nmD 6) (nmD j) = some ((Nat.beq 6 j, ()), ()) := by
  match j, h2 with
  | 0, _ => exact age_6_0
  | 1, _ => exact age_6_1
  | 2, _ => exact age_6_2
  | 3, _ => exact age_6_3
  | 4, _ => exact age_6_4
  | 5, _ => exact age_6_5
  | 6, _ => exact age_6_6
  | 7, _ => exact age_6_7
  | 8, _ => exact age_6_8
  | 9, _ => exact age_6_9
  | 10, _ => exact age_6_10
  | 11, _ => exact age_6_11
  | 12, _ => exact age_6_12
  | 13, _ => exact age_6_13
  | 14, _ => exact age_6_14
  | n + 15, h => exact absurd h (by omega)
theorem age_7_0 : ref26_EqualR 18446744073709551616 18446744073709551616 (nmD 7) (nmD 0) = some ((Nat.beq 7 0, ()), ()) := by kernel_rfl
theorem age_7_1 : ref26_EqualR 18446744073709551616 18446744073709551616 (nmD 7) (nmD 1) = some ((Nat.beq 7 1, ()), ()) := by kernel_rfl
theorem age_7_2 : ref26_EqualR 18446744073709551616 18446744073709551616 (nmD 7) (nmD 2) = some ((Nat.beq 7 2, ()), ()) := by kernel_rfl
theorem age_7_3 : ref26_EqualR 18446744073709551616 18446744073709551616 (nmD 7) (nmD 3) = some ((Nat.beq 7 3, ()), ()) := by kernel_rfl
theorem age_7_4 : ref26_EqualR 18446744073709551616 18446744073709551616 (nmD 7) (nmD 4) = some ((Nat.beq 7 4, ()), ()) := by kernel_rfl
theorem age_7_5 : ref26_EqualR 18446744073709551616 18446744073709551616 (nmD 7) (nmD 5) = some ((Nat.beq 7 5, ()), ()) := by kernel_rfl
theorem age_7_6 : ref26_EqualR 18446744073709551616 18446744073709551616 (nmD 7) (nmD 6) = some ((Nat.beq 7 6, ()), ()) := by kernel_rfl
theorem age_7_7 : ref26_EqualR 18446744073709551616 18446744073709551616 (nmD 7) (nmD 7) = some ((Nat.beq 7 7, ()), ()) := by kernel_rfl
theorem age_7_8 : ref26_EqualR 18446744073709551616 18446744073709551616 (nmD 7) (nmD 8) = some ((Nat.beq 7 8, ()), ()) := by kernel_rfl
theorem age_7_9 : ref26_EqualR 18446744073709551616 18446744073709551616 (nmD 7) (nmD 9) = some ((Nat.beq 7 9, ()), ()) := by kernel_rfl
theorem age_7_10 : ref26_EqualR 18446744073709551616 18446744073709551616 (nmD 7) (nmD 10) = some ((Nat.beq 7 10, ()), ()) := by kernel_rfl
theorem age_7_11 : ref26_EqualR 18446744073709551616 18446744073709551616 (nmD 7) (nmD 11) = some ((Nat.beq 7 11, ()), ()) := by kernel_rfl
theorem age_7_12 : ref26_EqualR 18446744073709551616 18446744073709551616 (nmD 7) (nmD 12) = some ((Nat.beq 7 12, ()), ()) := by kernel_rfl
theorem age_7_13 : ref26_EqualR 18446744073709551616 18446744073709551616 (nmD 7) (nmD 13) = some ((Nat.beq 7 13, ()), ()) := by kernel_rfl
theorem age_7_14 : ref26_EqualR 18446744073709551616 18446744073709551616 (nmD 7) (nmD 14) = some ((Nat.beq 7 14, ()), ()) := by kernel_rfl
theorem age_7 (j : Nat) (h2 : j < 15) : ref26_EqualR 18446744073709551616 18446744073709551616 (nmD 7) (nmD j) = some ((Nat.beq 7 j, ()), ()) := by
  match j, h2 with
  | 0, _ => exact age_7_0
  | 1, _ => exact age_7_1
  | 2, _ => exact age_7_2
  | 3, _ => exact age_7_3
  | 4, _ => exact age_7_4
  | 5, _ => exact age_7_5
  | 6, _ => exact age_7_6
  | 7, _ => exact age_7_7
  | 8, _ => exact age_7_8
  | 9, _ => exact age_7_9
  | 10, _ => exact age_7_10
  | 11, _ => exact age_7_11
  | 12, _ => exact age_7_12
  | 13, _ => exact age_7_13
  | 14, _ => exact age_7_14
  | n + 15, h => exact absurd h (by omega)
theorem age_8_0 : ref26_EqualR 18446744073709551616 18446744073709551616 (nmD 8) (nmD 0) = some ((Nat.beq 8 0, ()), ()) := by kernel_rfl
theorem age_8_1 : ref26_EqualR 18446744073709551616 18446744073709551616 (nmD 8) (nmD 1) = some ((Nat.beq 8 1, ()), ()) := by kernel_rfl
theorem age_8_2 : ref26_EqualR 18446744073709551616 18446744073709551616 (nmD 8) (nmD 2) = some ((Nat.beq 8 2, ()), ()) := by kernel_rfl
theorem age_8_3 : ref26_EqualR 18446744073709551616 18446744073709551616 (nmD 8) (nmD 3) = some ((Nat.beq 8 3, ()), ()) := by kernel_rfl
theorem age_8_4 : ref26_EqualR 18446744073709551616 18446744073709551616 (nmD 8) (nmD 4) = some ((Nat.beq 8 4, ()), ()) := by kernel_rfl
theorem age_8_5 : ref26_EqualR 18446744073709551616 18446744073709551616 (nmD 8) (nmD 5) = some ((Nat.beq 8 5, ()), ()) := by kernel_rfl
theorem age_8_6 : ref26_EqualR 18446744073709551616 18446744073709551616 (nmD 8) (nmD 6) = some ((Nat.beq 8 6, ()), ()) := by kernel_rfl
theorem age_8_7 : ref26_EqualR 18446744073709551616 18446744073709551616 (nmD 8) (nmD 7) = some ((Nat.beq 8 7, ()), ()) := by kernel_rfl
theorem age_8_8 : ref26_EqualR 18446744073709551616 18446744073709551616 (nmD 8) (nmD 8) = some ((Nat.beq 8 8, ()), ()) := by kernel_rfl
theorem age_8_9 : ref26_EqualR 18446744073709551616 18446744073709551616 (nmD 8) (nmD 9) = some ((Nat.beq 8 9, ()), ()) := by kernel_rfl
theorem age_8_10 : ref26_EqualR 18446744073709551616 18446744073709551616 (nmD 8) (nmD 10) = some ((Nat.beq 8 10, ()), ()) := by kernel_rfl
theorem age_8_11 : ref26_EqualR 18446744073709551616 18446744073709551616 (nmD 8) (nmD 11) = some ((Nat.beq 8 11, ()), ()) := by kernel_rfl
theorem age_8_12 : ref26_EqualR 18446744073709551616 18446744073709551616 (nmD 8) (nmD 12) = some ((Nat.beq 8 12, ()), ()) := by kernel_rfl
theorem age_8_13 : ref26_EqualR 18446744073709551616 18446744073709551616 (nmD 8) (nmD 13) = some ((Nat.beq 8 13, ()), ()) := by kernel_rfl
theorem age_8_14 : ref26_EqualR 18446744073709551616 18446744073709551616 (nmD 8) (nmD 14) = some ((Nat.beq 8 14, ()), ()) := by kernel_rfl
theorem age_8 (j : Nat) (h2 : j < 15) : ref26_EqualR 18446744073709551616 18446744073709551616 (nmD 8) (nmD j) = some ((Nat.beq 8 j, ()), ()) := by
  match j, h2 with
  | 0, _ => exact age_8_0
  | 1, _ => exact age_8_1
  | 2, _ => exact age_8_2
  | 3, _ => exact age_8_3
  | 4, _ => exact age_8_4
  | 5, _ => exact age_8_5
  | 6, _ => exact age_8_6
  | 7, _ => exact age_8_7
  | 8, _ => exact age_8_8
  | 9, _ => exact age_8_9
  | 10, _ => exact age_8_10
  | 11, _ => exact age_8_11
  | 12, _ => exact age_8_12
  | 13, _ => exact age_8_13
  | 14, _ => exact age_8_14
  | n + 15, h => exact absurd h (by omega)
theorem age_9_0 : ref26_EqualR 18446744073709551616 18446744073709551616 (nmD 9) (nmD 0) = some ((Nat.beq 9 0, ()), ()) := by kernel_rfl
theorem age_9_1 : ref26_EqualR 18446744073709551616 18446744073709551616 (nmD 9) (nmD 1) = some ((Nat.beq 9 1, ()), ()) := by kernel_rfl
theorem age_9_2 : ref26_EqualR 18446744073709551616 18446744073709551616 (nmD 9) (nmD 2) = some ((Nat.beq 9 2, ()), ()) := by kernel_rfl
theorem age_9_3 : ref26_EqualR 18446744073709551616 18446744073709551616 (nmD 9) (nmD 3) = some ((Nat.beq 9 3, ()), ()) := by kernel_rfl
theorem age_9_4 : ref26_EqualR 18446744073709551616 18446744073709551616 (nmD 9) (nmD 4) = some ((Nat.beq 9 4, ()), ()) := by kernel_rfl
theorem age_9_5 : ref26_EqualR 18446744073709551616 18446744073709551616 (nmD 9) (nmD 5) = some ((Nat.beq 9 5, ()), ()) := by kernel_rfl
theorem age_9_6 : ref26_EqualR 18446744073709551616 18446744073709551616 (nmD 9) (nmD 6) = some ((Nat.beq 9 6, ()), ()) := by kernel_rfl
theorem age_9_7 : ref26_EqualR 18446744073709551616 18446744073709551616 (nmD 9) (nmD 7) = some ((Nat.beq 9 7, ()), ()) := by kernel_rfl
theorem age_9_8 : ref26_EqualR 18446744073709551616 18446744073709551616 (nmD 9) (nmD 8) = some ((Nat.beq 9 8, ()), ()) := by kernel_rfl
theorem age_9_9 : ref26_EqualR 18446744073709551616 18446744073709551616 (nmD 9) (nmD 9) = some ((Nat.beq 9 9, ()), ()) := by kernel_rfl
theorem age_9_10 : ref26_EqualR 18446744073709551616 18446744073709551616 (nmD 9) (nmD 10) = some ((Nat.beq 9 10, ()), ()) := by kernel_rfl
theorem age_9_11 : ref26_EqualR 18446744073709551616 18446744073709551616 (nmD 9) (nmD 11) = some ((Nat.beq 9 11, ()), ()) := by kernel_rfl
theorem age_9_12 : ref26_EqualR 18446744073709551616 18446744073709551616 (nmD 9) (nmD 12) = some ((Nat.beq 9 12, ()), ()) := by kernel_rfl
theorem age_9_13 : ref26_EqualR 18446744073709551616 18446744073709551616 (nmD 9) (nmD 13) = some ((Nat.beq 9 13, ()), ()) := by kernel_rfl
theorem age_9_14 : ref26_EqualR 18446744073709551616 18446744073709551616 (nmD 9) (nmD 14) = some ((Nat.beq 9 14, ()), ()) := by kernel_rfl
theorem age_9 (j : Nat) (h2 : j < 15) : ref26_EqualR 18446744073709551616 18446744073709551616 (nmD 9) (nmD j) = some ((Nat.beq 9 j, ()), ()) := by
  match j, h2 with
  | 0, _ => exact age_9_0
  | 1, _ => exact age_9_1
  | 2, _ => exact age_9_2
  | 3, _ => exact age_9_3
  | 4, _ => exact age_9_4
  | 5, _ => exact age_9_5
  | 6, _ => exact age_9_6
  | 7, _ => exact age_9_7
  | 8, _ => exact age_9_8
  | 9, _ => exact age_9_9
  | 10, _ => exact age_9_10
  | 11, _ => exact age_9_11
  | 12, _ => exact age_9_12
  | 13, _ => exact age_9_13
  | 14, _ => exact age_9_14
  | n + 15, h => exact absurd h (by omega)
theorem age_10_0 : ref26_EqualR 18446744073709551616 18446744073709551616 (nmD 10) (nmD 0) = some ((Nat.beq 10 0, ()), ()) := by kernel_rfl
theorem age_10_1 : ref26_EqualR 18446744073709551616 18446744073709551616 (nmD 10) (nmD 1) = some ((Nat.beq 10 1, ()), ()) := by kernel_rfl
theorem age_10_2 : ref26_EqualR 18446744073709551616 18446744073709551616 (nmD 10) (nmD 2) = some ((Nat.beq 10 2, ()), ()) := by kernel_rfl
theorem age_10_3 : ref26_EqualR 18446744073709551616 18446744073709551616 (nmD 10) (nmD 3) = some ((Nat.beq 10 3, ()), ()) := by kernel_rfl
theorem age_10_4 : ref26_EqualR 18446744073709551616 18446744073709551616 (nmD 10) (nmD 4) = some ((Nat.beq 10 4, ()), ()) := by kernel_rfl
theorem age_10_5 : ref26_EqualR 18446744073709551616 18446744073709551616 (nmD 10) (nmD 5) = some ((Nat.beq 10 5, ()), ()) := by kernel_rfl
theorem age_10_6 : ref26_EqualR 18446744073709551616 18446744073709551616 (nmD 10) (nmD 6) = some ((Nat.beq 10 6, ()), ()) := by kernel_rfl
theorem age_10_7 : ref26_EqualR 18446744073709551616 18446744073709551616 (nmD 10) (nmD 7) = some ((Nat.beq 10 7, ()), ()) := by kernel_rfl
theorem age_10_8 : ref26_EqualR 18446744073709551616 18446744073709551616 (nmD 10) (nmD 8) = some ((Nat.beq 10 8, ()), ()) := by kernel_rfl
theorem age_10_9 : ref26_EqualR 18446744073709551616 18446744073709551616 (nmD 10) (nmD 9) = some ((Nat.beq 10 9, ()), ()) := by kernel_rfl
theorem age_10_10 : ref26_EqualR 18446744073709551616 18446744073709551616 (nmD 10) (nmD 10) = some ((Nat.beq 10 10, ()), ()) := by kernel_rfl
theorem age_10_11 : ref26_EqualR 18446744073709551616 18446744073709551616 (nmD 10) (nmD 11) = some ((Nat.beq 10 11, ()), ()) := by kernel_rfl
theorem age_10_12 : ref26_EqualR 18446744073709551616 18446744073709551616 (nmD 10) (nmD 12) = some ((Nat.beq 10 12, ()), ()) := by kernel_rfl
theorem age_10_13 : ref26_EqualR 18446744073709551616 18446744073709551616 (nmD 10) (nmD 13) = some ((Nat.beq 10 13, ()), ()) := by kernel_rfl
theorem age_10_14 : ref26_EqualR 18446744073709551616 18446744073709551616 (nmD 10) (nmD 14) = some ((Nat.beq 10 14, ()), ()) := by kernel_rfl
theorem age_10 (j : Nat) (h2 : j < 15) : ref26_EqualR 18446744073709551616 18446744073709551616 (nmD 10) (nmD j) = some ((Nat.beq 10 j, ()), ()) := by
  match j, h2 with
  | 0, _ => exact age_10_0
  | 1, _ => exact age_10_1
  | 2, _ => exact age_10_2
  | 3, _ => exact age_10_3
  | 4, _ => exact age_10_4
  | 5, _ => exact age_10_5
  | 6, _ => exact age_10_6
  | 7, _ => exact age_10_7
  | 8, _ => exact age_10_8
  | 9, _ => exact age_10_9
  | 10, _ => exact age_10_10
  | 11, _ => exact age_10_11
  | 12, _ => exact age_10_12
  | 13, _ => exact age_10_13
  | 14, _ => exact age_10_14
  | n + 15, h => exact absurd h (by omega)
theorem age_11_0 : ref26_EqualR 18446744073709551616 18446744073709551616 (nmD 11) (nmD 0) = some ((Nat.beq 11 0, ()), ()) := by kernel_rfl
theorem age_11_1 : ref26_EqualR 18446744073709551616 18446744073709551616 (nmD 11) (nmD 1) = some ((Nat.beq 11 1, ()), ()) := by kernel_rfl
theorem age_11_2 : ref26_EqualR 18446744073709551616 18446744073709551616 (nmD 11) (nmD 2) = some ((Nat.beq 11 2, ()), ()) := by kernel_rfl
theorem age_11_3 : ref26_EqualR 18446744073709551616 18446744073709551616 (nmD 11) (nmD 3) = some ((Nat.beq 11 3, ()), ()) := by kernel_rfl
theorem age_11_4 : ref26_EqualR 18446744073709551616 18446744073709551616 (nmD 11) (nmD 4) = some ((Nat.beq 11 4, ()), ()) := by kernel_rfl
theorem age_11_5 : ref26_EqualR 18446744073709551616 18446744073709551616 (nmD 11) (nmD 5) = some ((Nat.beq 11 5, ()), ()) := by kernel_rfl
theorem age_11_6 : ref26_EqualR 18446744073709551616 18446744073709551616 (nmD 11) (nmD 6) = some ((Nat.beq 11 6, ()), ()) := by kernel_rfl
theorem age_11_7 : ref26_EqualR 18446744073709551616 18446744073709551616 (nmD 11) (nmD 7) = some ((Nat.beq 11 7, ()), ()) := by kernel_rfl
theorem age_11_8 : ref26_EqualR 18446744073709551616 18446744073709551616 (nmD 11) (nmD 8) = some ((Nat.beq 11 8, ()), ()) := by kernel_rfl
theorem age_11_9 : ref26_EqualR 18446744073709551616 18446744073709551616 (nmD 11) (nmD 9) = some ((Nat.beq 11 9, ()), ()) := by kernel_rfl
theorem age_11_10 : ref26_EqualR 18446744073709551616 18446744073709551616 (nmD 11) (nmD 10) = some ((Nat.beq 11 10, ()), ()) := by kernel_rfl
theorem age_11_11 : ref26_EqualR 18446744073709551616 18446744073709551616 (nmD 11) (nmD 11) = some ((Nat.beq 11 11, ()), ()) := by kernel_rfl
theorem age_11_12 : ref26_EqualR 18446744073709551616 18446744073709551616 (nmD 11) (nmD 12) = some ((Nat.beq 11 12, ()), ()) := by kernel_rfl
theorem age_11_13 : ref26_EqualR 18446744073709551616 18446744073709551616 (nmD 11) (nmD 13) = some ((Nat.beq 11 13, ()), ()) := by kernel_rfl
theorem age_11_14 : ref26_EqualR 18446744073709551616 18446744073709551616 (nmD 11) (nmD 14) = some ((Nat.beq 11 14, ()), ()) := by kernel_rfl
theorem age_11 (j : Nat) (h2 : j < 15) : ref26_EqualR 18446744073709551616 18446744073709551616 (nmD 11) (nmD j) = some ((Nat.beq 11 j, ()), ()) := by
  match j, h2 with
  | 0, _ => exact age_11_0
  | 1, _ => exact age_11_1
  | 2, _ => exact age_11_2
  | 3, _ => exact age_11_3
  | 4, _ => exact age_11_4
  | 5, _ => exact age_11_5
  | 6, _ => exact age_11_6
  | 7, _ => exact age_11_7
  | 8, _ => exact age_11_8
  | 9, _ => exact age_11_9
  | 10, _ => exact age_11_10
  | 11, _ => exact age_11_11
  | 12, _ => exact age_11_12
  | 13, _ => exact age_11_13
  | 14, _ => exact age_11_14
  | n + 15, h => exact absurd h (by omega)
theorem age_12_0 : ref26_EqualR 18446744073709551616 18446744073709551616 (nmD 12) (nmD 0) = some ((Nat.beq 12 0, ()), ()) := by kernel_rfl
theorem age_12_1 : ref26_EqualR 18446744073709551616 18446744073709551616 (nmD 12) (nmD 1) = some ((Nat.beq 12 1, ()), ()) := by kernel_rfl
theorem age_12_2 : ref26_EqualR 18446744073709551616 18446744073709551616 (nmD 12) (nmD 2) = some ((Nat.beq 12 2, ()), ()) := by kernel_rfl
theorem age_12_3 : ref26_EqualR 18446744073709551616 18446744073709551616 (nmD 12) (nmD 3) = some ((Nat.beq 12 3, ()), ()) := by kernel_rfl
theorem age_12_4 : ref26_EqualR 18446744073709551616 18446744073709551616 (nmD 12) (nmD 4) = some ((Nat.beq 12 4, ()), ()) := by kernel_rfl
theorem age_12_5 : ref26_EqualR 18446744073709551616 18446744073709551616 (nmD 12) (nmD 5) = some ((Nat.beq 12 5, ()), ()) := by kernel_rfl
theorem age_12_6 : ref26_EqualR 18446744073709551616 18446744073709551616 (nmD 12) (nmD 6) = some ((Nat.beq 12 6, ()), ()) := by kernel_rfl
theorem age_12_7 : ref26_EqualR 18446744073709551616 18446744073709551616 (nmD 12) (nmD 7) = some ((Nat.beq 12 7, ()), ()) := by kernel_rfl
theorem age_12_8 : ref26_EqualR 18446744073709551616 18446744073709551616 (nmD 12) (nmD 8) = some ((Nat.beq 12 8, ()), ()) := by kernel_rfl
theorem age_12_9 : ref26_EqualR 18446744073709551616 18446744073709551616 (nmD 12) (nmD 9) = some ((Nat.beq 12 9, ()), ()) := by kernel_rfl
theorem age_12_10 : ref26_EqualR 18446744073709551616 18446744073709551616 (nmD 12) (nmD 10) = some ((Nat.beq 12 10, ()), ()) := by kernel_rfl
theorem age_12_11 : ref26_EqualR 18446744073709551616 18446744073709551616 (nmD 12) (nmD 11) = some ((Nat.beq 12 11, ()), ()) := by kernel_rfl
theorem age_12_12 : ref26_EqualR 18446744073709551616 18446744073709551616 (nmD 12) (nmD 12) = some ((Nat.beq 12 12, ()), ()) := by kernel_rfl
theorem age_12_13 : ref26_EqualR 18446744073709551616 18446744073709551616 (nmD 12) (nmD 13) = some ((Nat.beq 12 13, ()), ()) := by kernel_rfl
theorem age_12_14 : ref26_EqualR 18446744073709551616 18446744073709551616 (nmD 12) (nmD 14) = some ((Nat.beq 12 14, ()), ()) := by kernel_rfl
theorem age_12 (j : Nat) (h2 : j < 15) : ref26_EqualR 18446744073709551616 18446744073709551616 (nmD 12) (nmD j) = some ((Nat.beq 12 j, ()), ()) := by
  match j, h2 with
  | 0, _ => exact age_12_0
  | 1, _ => exact age_12_1
  | 2, _ => exact age_12_2
  | 3, _ => exact age_12_3
  | 4, _ => exact age_12_4
  | 5, _ => exact age_12_5
  | 6, _ => exact age_12_6
  | 7, _ => exact age_12_7
  | 8, _ => exact age_12_8
  | 9, _ => exact age_12_9
  | 10, _ => exact age_12_10
  | 11, _ => exact age_12_11
  | 12, _ => exact age_12_12
  | 13, _ => exact age_12_13
  | 14, _ => exact age_12_14
  | n + 15, h => exact absurd h (by omega)
theorem age_13_0 : ref26_EqualR 18446744073709551616 18446744073709551616 (nmD 13) (nmD 0) = some ((Nat.beq 13 0, ()), ()) := by kernel_rfl
theorem age_13_1 : ref26_EqualR 18446744073709551616 18446744073709551616 (nmD 13) (nmD 1) = some ((Nat.beq 13 1, ()), ()) := by kernel_rfl
theorem age_13_2 : ref26_EqualR 18446744073709551616 18446744073709551616 (nmD 13) (nmD 2) = some ((Nat.beq 13 2, ()), ()) := by kernel_rfl
theorem age_13_3 : ref26_EqualR 18446744073709551616 18446744073709551616 (nmD 13) (nmD 3) = some ((Nat.beq 13 3, ()), ()) := by kernel_rfl
theorem age_13_4 : ref26_EqualR 18446744073709551616 18446744073709551616 (nmD 13) (nmD 4) = some ((Nat.beq 13 4, ()), ()) := by kernel_rfl
theorem age_13_5 : ref26_EqualR 18446744073709551616 18446744073709551616 (nmD 13) (nmD 5) = some ((Nat.beq 13 5, ()), ()) := by kernel_rfl
theorem age_13_6 : ref26_EqualR 18446744073709551616 18446744073709551616 (nmD 13) (nmD 6) = some ((Nat.beq 13 6, ()), ()) := by kernel_rfl
theorem age_13_7 : ref26_EqualR 18446744073709551616 18446744073709551616 (nmD 13) (nmD 7) = some ((Nat.beq 13 7, ()), ()) := by kernel_rfl
theorem age_13_8 : ref26_EqualR 18446744073709551616 18446744073709551616 (nmD 13) (nmD 8) = some ((Nat.beq 13 8, ()), ()) := by kernel_rfl
theorem age_13_9 : ref26_EqualR 18446744073709551616 18446744073709551616 (nmD 13) (nmD 9) = some ((Nat.beq 13 9, ()), ()) := by kernel_rfl
theorem age_13_10 : ref26_EqualR 18446744073709551616 18446744073709551616 (nmD 13) (nmD 10) = some ((Nat.beq 13 10, ()), ()) := by kernel_rfl
theorem age_13_11 : ref26_EqualR 18446744073709551616 18446744073709551616 (nmD 13) (nmD 11) = some ((Nat.beq 13 11, ()), ()) := by kernel_rfl
theorem age_13_12 : ref26_EqualR 18446744073709551616 18446744073709551616 (nmD 13) (nmD 12) = some ((Nat.beq 13 12, ()), ()) := by kernel_rfl
theorem age_13_13 : ref26_EqualR 18446744073709551616 18446744073709551616 (nmD 13) (nmD 13) = some ((Nat.beq 13 13, ()), ()) := by kernel_rfl
theorem age_13_14 : ref26_EqualR 18446744073709551616 18446744073709551616 (nmD 13) (nmD 14) = some ((Nat.beq 13 14, ()), ()) := by kernel_rfl
theorem age_13 (j : Nat) (h2 : j < 15) : ref26_EqualR 18446744073709551616 18446744073709551616 (nmD 13) (nmD j) = some ((Nat.beq 13 j, ()), ()) := by
  match j, h2 with
  | 0, _ => exact age_13_0
  | 1, _ => exact age_13_1
  | 2, _ => exact age_13_2
  | 3, _ => exact age_13_3
  | 4, _ => exact age_13_4
  | 5, _ => exact age_13_5
  | 6, _ => exact age_13_6
  | 7, _ => exact age_13_7
  | 8, _ => exact age_13_8
  | 9, _ => exact age_13_9
  | 10, _ => exact age_13_10
  | 11, _ => exact age_13_11
  | 12, _ => exact age_13_12
  | 13, _ => exact age_13_13
  | 14, _ => exact age_13_14
  | n + 15, h => exact absurd h (by omega)
theorem age_14_0 : ref26_EqualR 18446744073709551616 18446744073709551616 (nmD 14) (nmD 0) = some ((Nat.beq 14 0, ()), ()) := by kernel_rfl
theorem age_14_1 : ref26_EqualR 18446744073709551616 18446744073709551616 (nmD 14) (nmD 1) = some ((Nat.beq 14 1, ()), ()) := by kernel_rfl
theorem age_14_2 : ref26_EqualR 18446744073709551616 18446744073709551616 (nmD 14) (nmD 2) = some ((Nat.beq 14 2, ()), ()) := by kernel_rfl
theorem age_14_3 : ref26_EqualR 18446744073709551616 18446744073709551616 (nmD 14) (nmD 3) = some ((Nat.beq 14 3, ()), ()) := by kernel_rfl
theorem age_14_4 : ref26_EqualR 18446744073709551616 18446744073709551616 (nmD 14) (nmD 4) = some ((Nat.beq 14 4, ()), ()) := by kernel_rfl
theorem age_14_5 : ref26_EqualR 18446744073709551616 18446744073709551616 (nmD 14) (nmD 5) = some ((Nat.beq 14 5, ()), ()) := by kernel_rfl
theorem age_14_6 : ref26_EqualR 18446744073709551616 18446744073709551616 (nmD 14) (nmD 6) = some ((Nat.beq 14 6, ()), ()) := by kernel_rfl
theorem age_14_7 : ref26_EqualR 18446744073709551616 18446744073709551616 (nmD 14) (nmD 7) = some ((Nat.beq 14 7, ()), ()) := by kernel_rfl
theorem age_14_8 : ref26_EqualR 18446744073709551616 18446744073709551616 (nmD 14) (nmD 8) = some ((Nat.beq 14 8, ()), ()) := by kernel_rfl
theorem age_14_9 : ref26_EqualR 18446744073709551616 18446744073709551616 (nmD 14) (nmD 9) = some ((Nat.beq 14 9, ()), ()) := by kernel_rfl
theorem age_14_10 : ref26_EqualR 18446744073709551616 18446744073709551616 (nmD 14) (nmD 10) = some ((Nat.beq 14 10, ()), ()) := by kernel_rfl
theorem age_14_11 : ref26_EqualR 18446744073709551616 18446744073709551616 (nmD 14) (nmD 11) = some ((Nat.beq 14 11, ()), ()) := by kernel_rfl
theorem age_14_12 : ref26_EqualR 18446744073709551616 18446744073709551616 (nmD 14) (nmD 12) = some ((Nat.beq 14 12, ()), ()) := by kernel_rfl
theorem age_14_13 : ref26_EqualR 18446744073709551616 18446744073709551616 (nmD 14) (nmD 13) = some ((Nat.beq 14 13, ()), ()) := by kernel_rfl
theorem age_14_14 : ref26_EqualR 18446744073709551616 18446744073709551616 (nmD 14) (nmD 14) = some ((Nat.beq 14 14, ()), ()) := by kernel_rfl
theorem age_14 (j : Nat) (h2 : j < 15) : ref26_EqualR 18446744073709551616 18446744073709551616 (nmD 14) (nmD j) = some ((Nat.beq 14 j, ()), ()) := by
  match j, h2 with
  | 0, _ => exact age_14_0
  | 1, _ => exact age_14_1
  | 2, _ => exact age_14_2
  | 3, _ => exact age_14_3
  | 4, _ => exact age_14_4
  | 5, _ => exact age_14_5
  | 6, _ => exact age_14_6
  | 7, _ => exact age_14_7
  | 8, _ => exact age_14_8
  | 9, _ => exact age_14_9
  | 10, _ => exact age_14_10
  | 11, _ => exact age_14_11
  | 12, _ => exact age_14_12
  | 13, _ => exact age_14_13
  | 14, _ => exact age_14_14
  | n + 15, h => exact absurd h (by omega)
theorem age_all (i j : Nat) (h : i < 15) (h2 : j < 15) : ref26_EqualR 18446744073709551616 18446744073709551616 (nmD i) (nmD j) = some ((Nat.beq i j, ()), ()) := by
  match i, h with
  | 0, _ => exact age_0 j h2
  | 1, _ => exact age_1 j h2
  | 2, _ => exact age_2 j h2
  | 3, _ => exact age_3 j h2
  | 4, _ => exact age_4 j h2
  | 5, _ => exact age_5 j h2
  | 6, _ => exact age_6 j h2
  | 7, _ => exact age_7 j h2
  | 8, _ => exact age_8 j h2
  | 9, _ => exact age_9 j h2
  | 10, _ => exact age_10 j h2
  | 11, _ => exact age_11 j h2
  | 12, _ => exact age_12 j h2
  | 13, _ => exact age_13 j h2
  | 14, _ => exact age_14 j h2
  | n + 15, h => exact absurd h (by omega)
end Go.Proofs.YtajpblfinenmjaaDoor.Pl

/- Plain: the law ConcreteAgrees. -/
namespace Go.Proofs.YtajpblfinenmjaaDoor.Pl
open Go
/-- A maker whose place lies in its list. -/
def COk (c : List UInt8 × (Int × Unit)) : Prop := 0 ≤ c.2.1 ∧ c.2.1 ≤ (c.1.length : Int) ∧ c.1.length ≤ 1000000000000000
theorem dnext_ok (N : Nat) {c : List UInt8 × (Int × Unit)} {n : Int} (h : COk c) (hn : 0 < n) (hn2 : n ≤ 1000000) : ∃ v c', draw_Codes_Next N n c = some ((v, ()), (c', ())) ∧ 0 ≤ v ∧ v < n ∧ COk c' := by
  obtain ⟨l, i, u⟩ := c
  obtain ⟨h1, h2, h3⟩ := h
  simp only at h1 h2 h3
  unfold draw_Codes_Next
  by_cases hlt : (l.length : Int) ≤ i
  · simp only [hlt, decide_true, cond_true]
    exact ⟨0, _, rfl, by omega, hn, h1, h2, h3⟩
  · have e1 : w64 (i + 1) = i + 1 := w64_of (by omega) (by omega)
    have e2 : w64 (i + 1 - 1) = i := by rw [w64_of (by omega) (by omega)]; omega
    simp only [hlt, decide_false, cond_false, e1, e2]
    have e3 : inR i l.length = true := by simp [inR, h1]; omega
    rw [e3, cond_true]
    obtain ⟨b, hb⟩ : ∃ b : Nat, b = (l.getD i.toNat 0).toNat := ⟨_, rfl⟩
    have hb2 : b < 256 := by rw [hb]; exact UInt8.toNat_lt _
    rw [← hb]
    have hm0 : 0 ≤ (b : Int) * n := Int.mul_nonneg (by omega) (by omega)
    have hm1 : (b : Int) * n ≤ 255 * n := Int.mul_le_mul_of_nonneg_right (by omega) (by omega)
    have e4 : w64 ((b : Int) * n) = (b : Int) * n := w64_of (by omega) (by omega)
    have e5 : ((b : Int) * n).tdiv 256 = ((b : Int) * n) / 256 := Int.tdiv_eq_ediv_of_nonneg hm0
    have e6 : w64 (((b : Int) * n) / 256) = ((b : Int) * n) / 256 := w64_of (by omega) (by omega)
    rw [e4, e5, e6]
    exact ⟨_, _, rfl, by omega, by omega, by simp only; omega, by simp only; omega, h3⟩
theorem dname_ok {c : List UInt8 × (Int × Unit)} (h : COk c) : ∃ i c', draw_Codes_Name 18446744073709551616 c = some ((nmD i, ()), (c', ())) ∧ i < 15 ∧ COk c' := by
  obtain ⟨v, c1, e1, a1, a2, h1⟩ := dnext_ok 18446744073709551616 (n := 3) h (by omega) (by omega)
  obtain ⟨u, c2, e2, b1, b2, h2⟩ := dnext_ok 18446744073709551616 (n := 5) h1 (by omega) (by omega)
  refine ⟨v.toNat * 5 + u.toNat, c2, ?_, by omega, h2⟩
  unfold draw_Codes_Name ref26_Name
  simp only [e1, e2, Option.bind_some]
  have f1 : w64 ((1 : Int) + u) = 1 + u := w64_of (by omega) (by omega)
  have f2 : w64 (v * (1048576 : Int)) = v * 1048576 := w64_of (by omega) (by omega)
  have f3 : w64 (v * 1048576 + (1 + u)) = v * 1048576 + (1 + u) := w64_of (by omega) (by omega)
  rw [f1, f2, f3]
  have f4 : (((v.toNat * 5 + u.toNat) / 5 * 1048576 + (v.toNat * 5 + u.toNat) % 5 + 1 : Nat) : Int) = v * 1048576 + (1 + u) := by omega
  unfold nmD
  rw [f4]
theorem dnew_ok (l : List UInt8) : ∃ c, draw_New 18446744073709551616 l 60 = some ((), (c, ())) ∧ COk c := by
  unfold draw_New
  by_cases hlt : (60 : Int) < (l.length : Int)
  · simp only [hlt, decide_true, cond_true]
    have e1 : decide ((60 : Int) ≤ (l.length : Int)) = true := decide_eq_true (by omega)
    have e2 : cut l 0 (60 : Int).toNat = l.take 60 := by simp [cut]
    have e3 : (l.take 60).length = 60 := by rw [List.length_take]; omega
    rw [e1, e2, e3]
    exact ⟨_, rfl, by simp, by simp, by simp only [e3]; omega⟩
  · have hl : l.length ≤ 60 := by omega
    simp only [hlt, decide_false, cond_false]
    have e1 : decide ((0 : Int) ≤ (l.length : Int)) = true := decide_eq_true (by omega)
    have e4 : decide ((l.length : Int) ≤ (l.length : Int)) = true := decide_eq_true (by omega)
    have e2 : cut l 0 (l.length : Int).toNat = l := by simp [cut]
    have e3 : room (0 + l.length) 1 = true := room_of (by omega)
    rw [e1, e4, e2, e3]
    exact ⟨_, rfl, by simp, by simp, by simp only; omega⟩
theorem sec_le {i j : Nat} (h : i ≤ j) (hj : j < 15) : (concrete_Secret 18446744073709551616 (dvD i j)).map (fun r => (r.1.1, r.2.1.length, nb r.2.1)) = some ((0 : Int), 32, tb i j) := by
  have hi : i < 15 := by omega
  match i, hi with
  | 0, _ => exact ag_0 j h hj
  | 1, _ => exact ag_1 j h hj
  | 2, _ => exact ag_2 j h hj
  | 3, _ => exact ag_3 j h hj
  | 4, _ => exact ag_4 j h hj
  | 5, _ => exact ag_5 j h hj
  | 6, _ => exact ag_6 j h hj
  | 7, _ => exact ag_7 j h hj
  | 8, _ => exact ag_8 j h hj
  | 9, _ => exact ag_9 j h hj
  | 10, _ => exact ag_10 j h hj
  | 11, _ => exact ag_11 j h hj
  | 12, _ => exact ag_12 j h hj
  | 13, _ => exact ag_13 j h hj
  | 14, _ => exact ag_14 j h hj
  | n + 15, hi => exact absurd hi (by omega)
theorem sec_ok {i j : Nat} (h : i ≤ j) (hj : j < 15) : ∃ b, concrete_Secret 18446744073709551616 (dvD i j) = some ((0, ()), (b, ())) ∧ b.length = 32 ∧ nb b = tb i j := by
  have := sec_le h hj
  rw [Option.map_eq_some_iff] at this
  obtain ⟨⟨⟨e, ⟨⟩⟩, b, ⟨⟩⟩, h1, h2⟩ := this
  simp only [Prod.mk.injEq] at h2
  exact ⟨b, by rw [h1, h2.1], h2.2.1, h2.2.2⟩
theorem agree_ok {i j : Nat} (hi : i < 15) (hj : j < 15) : ∃ p t, ref26_Public 18446744073709551616 (nmD i) = some ((p, ()), ()) ∧ ref26_Agree 18446744073709551616 p (nmD j) = some ((shD (min i j) (max i j), t, ()), ()) := by
  have h := agp_all i j hi hj
  unfold agQ at h
  rw [Option.bind_eq_some_iff] at h
  obtain ⟨⟨⟨p, ⟨⟩⟩, ⟨⟩⟩, h1, h2⟩ := h
  rw [Option.map_eq_some_iff] at h2
  obtain ⟨⟨⟨q, t, ⟨⟩⟩, ⟨⟩⟩, h3, h4⟩ := h2
  exact ⟨p, t, h1, by rw [h3]; simp only at h4; rw [h4]⟩
theorem awake44 : law44_awake 18446744073709551616 = some ((true, ()), ()) := by kernel_rfl
/-- Whether two lists are one. -/
theorem same_dec (N : Nat) (hN : 4611686018427387904 ≤ N) {a b : List UInt8} (ha : a.length ≤ 1000000) (hab : a.length = b.length) : ref24_SameBytes N a b = some ((decide (a = b), ()), ()) := by
  unfold ref24_SameBytes ref24_SameBytes_1
  have e0 : (!(decide ((a.length : Int) = (b.length : Int)))) = false := by simp [hab]
  rw [e0, cond_false]
  have hl := loopK_of (N := N) (step := fun y => ref24_SameBytes_s2 N y.1.1 y.1.2.1 y.1.2.2.1) (J := fun (e : ((Unit) × (Unit))) => ref24_SameBytes_3 N)
    (I := fun y => y.1.1 = a ∧ y.1.2.1 = b ∧ 0 ≤ y.1.2.2.1 ∧ y.1.2.2.1 ≤ (a.length : Int) ∧ a.take y.1.2.2.1.toNat = b.take y.1.2.2.1.toNat) (μ := fun y => ((a.length : Int) - y.1.2.2.1).toNat) (T := fun r => r = ((decide (a = b), ()), ())) ?_
    (x := ((a, b, 0, ()), ())) ⟨rfl, rfl, Int.le_refl _, by simp, by simp⟩ (by simp only; omega)
  · obtain ⟨r, h1, h2⟩ := hl
    rw [h1, h2]
  · rintro ⟨⟨a', b', i, ⟨⟩⟩, ⟨⟩⟩ ⟨h1, h2, h3, h4, h5⟩
    simp only at h1 h2 h3 h4 h5
    subst h1
    subst h2
    simp only [ref24_SameBytes_s2]
    by_cases hlt : i < (a'.length : Int)
    · have e1 : decide (i < (a'.length : Int)) = true := decide_eq_true hlt
      have e2 : inR i a'.length = true := inR_of h3 hlt
      have e3 : inR i b'.length = true := inR_of h3 (by omega)
      rw [e1, e2, e3]
      simp only [cond_true]
      by_cases hg : a'.getD i.toNat 0 = b'.getD i.toNat 0
      · have e4 : w64 (i + 1) = i + 1 := w64_of (by omega) (by omega)
        rw [hg, decide_eq_true rfl, e4]
        refine ⟨_, rfl, ⟨rfl, rfl, by simp only; omega, by simp only; omega, ?_⟩, by simp only; omega⟩
        have e5 : (i + 1).toNat = i.toNat + 1 := by omega
        simp only [e5]
        rw [take_snoc a' 0 (by omega), take_snoc b' 0 (by omega), h5, hg]
      · have e4 : decide (a'.getD i.toNat 0 = b'.getD i.toNat 0) = false := decide_eq_false hg
        rw [e4]
        refine ⟨_, rfl, ?_⟩
        have : a' ≠ b' := fun e => hg (by rw [e])
        simp [this]
    · have e1 : decide (i < (a'.length : Int)) = false := decide_eq_false hlt
      rw [e1]
      refine ⟨_, rfl, _, rfl, ?_⟩
      have h6 : i.toNat = a'.length := by omega
      rw [h6, List.take_length, hab, List.take_length] at h5
      simp [h5]
/-- The law by its parts, at any fuel. -/
theorem agrees_of {N : Nat} {codes : List UInt8} {c0 c1 c2 c3 : List UInt8 × (Int × Unit)} {a b d p1 p2 s1 s2 s3 x1 x2 x3 : Int × Int × List Tree × Unit} {t1 t2 t3 e1 e2 : Bool} {b1 b3 : List UInt8}
    (h0 : law44_awake N = some ((true, ()), ())) (h1 : draw_New N codes 60 = some ((), (c0, ()))) (h2 : draw_Codes_Name N c0 = some ((a, ()), (c1, ()))) (h3 : draw_Codes_Name N c1 = some ((b, ()), (c2, ()))) (h4 : draw_Codes_Name N c2 = some ((d, ()), (c3, ())))
    (h5 : ref26_Public N a = some ((p1, ()), ())) (h6 : ref26_Public N b = some ((p2, ()), ())) (h7 : ref26_Agree N p1 b = some ((s1, t1, ()), ())) (h8 : ref26_Agree N p2 a = some ((s2, t2, ()), ())) (h9 : ref26_Agree N p1 d = some ((s3, t3, ()), ()))
    (h10 : ref26_Derive N 1 [s1] = some ((x1, ()), ())) (h11 : ref26_Derive N 1 [s2] = some ((x2, ()), ())) (h12 : ref26_Derive N 1 [s3] = some ((x3, ()), ()))
    (h13 : concrete_Secret N x1 = some (((0 : Int), ()), (b1, ()))) (h14 : concrete_Secret N x2 = some (((0 : Int), ()), (b1, ()))) (h15 : concrete_Secret N x3 = some (((0 : Int), ()), (b3, ())))
    (h16 : ref24_SameBytes N b1 b1 = some ((true, ()), ())) (h17 : ref24_SameBytes N b1 b3 = some ((e1, ()), ())) (h18 : ref26_EqualR N N b d = some ((e2, ()), ())) (h19 : e1 = e2) (h20 : b1.length = 32) :
    law44_ConcreteAgrees N codes = some ((true, ()), ()) := by
  unfold law44_ConcreteAgrees
  subst h19
  have h21 : decide ((b1.length : Int) = 32) = true := decide_eq_true (by omega)
  simp only [h0, h1, h2, h3, h4, h5, h6, h7, h8, h9, h10, h11, h12, h13, h14, h15, h16, h17, h18, Option.bind_some, Bool.not_true, cond_false, cond_true, decide_true, h21]
theorem dv_of (N x y : Nat) : ref26_Derive N 1 [shD x y] = some ((dvD x y, ()), ()) := by
  unfold ref26_Derive
  have e : room (0 + [shD x y].length) 40 = true := room_of (by simp only [List.length_cons, List.length_nil]; omega)
  rw [e]
  rfl
/-- The law. -/
theorem agrees (codes : List UInt8) (_h : codes.length ≤ 9223372036854775807) : law44_ConcreteAgrees 18446744073709551616 codes = some ((true, ()), ()) := by
  obtain ⟨c0, n0, k0⟩ := dnew_ok codes
  obtain ⟨i, c1, n1, hi, k1⟩ := dname_ok k0
  obtain ⟨j, c2, n2, hj, k2⟩ := dname_ok k1
  obtain ⟨k, c3, n3, hk, k3⟩ := dname_ok k2
  obtain ⟨pi, t1, p1, a1⟩ := agree_ok hi hj
  obtain ⟨pj, t2, p2, a2⟩ := agree_ok hj hi
  obtain ⟨pi', t3, p3, a3⟩ := agree_ok hi hk
  obtain rfl : pi = pi' := by rw [p1] at p3; cases p3; rfl
  obtain ⟨b1, s1, l1, v1⟩ := sec_ok (i := min i j) (j := max i j) (by omega) (by omega)
  obtain ⟨b3, s3, l3, v3⟩ := sec_ok (i := min i k) (j := max i k) (by omega) (by omega)
  have hmin : min j i = min i j := Nat.min_comm ..
  have hmax : max j i = max i j := Nat.max_comm ..
  rw [hmin, hmax] at a2
  have hsame1 := same_dec 18446744073709551616 (by omega) (a := b1) (b := b1) (by omega) rfl
  have hsame3 := same_dec 18446744073709551616 (by omega) (a := b1) (b := b3) (by omega) (by omega)
  rw [decide_eq_true rfl] at hsame1
  have hne : decide (b1 = b3) = Nat.beq j k := by
    by_cases hjk : j = k
    · subst hjk
      rw [s1] at s3
      cases s3
      rw [Nat.beq_refl]
      simp
    · have h1 : b1 ≠ b3 := fun e => hjk (tb_ne hi hj hk (by unfold tb2; rw [← v1, ← v3, e]))
      have h2 : Nat.beq j k = false := by
        cases e : Nat.beq j k with
        | false => rfl
        | true => exact absurd (Nat.eq_of_beq_eq_true e) hjk
      rw [h2]; exact decide_eq_false h1
  exact agrees_of awake44 n0 n1 n2 n3 p1 p2 a1 a2 a3 (dv_of _ _ _) (dv_of _ _ _) (dv_of _ _ _) s1 s1 s3 hsame1 hsame3 (age_all j k hj hk) hne l1
end Go.Proofs.YtajpblfinenmjaaDoor.Pl
